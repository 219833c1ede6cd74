/- Lemmas. -/
import Derived.Maps.Ext
import Derived.Test.YtkmaeipoaoikpaaGreatEC12
namespace Go.Proofs.YtkmaeipoaoikpaaGreat
set_option linter.all false
set_option maxRecDepth 100000
set_option maxHeartbeats 2000000
open Lib (hid)
open Go.RowKit
open Tryz
structure ZeV(S:Nat->Prop)(w:World)(b cp s r:Nat)(q:List (Zfh×List Int))(A:Option Addr)(n c:Nat)(pk:Int)(ms:List ZjX):Prop where
 sb:S b
 blk:Blk w b 243 (Zf4 A n c cp s r pk)
 own:w.ownsRow 0 259 6 (.slice A n c) n (msV ms)
 so:∀g,(Value.slice A n c).ownBlock=some g->S g
 len:ms.length=n
 nn:n=min s cp
 ql:q.length=s-r
 rs:r<=s
 room:s-r<=cp
 s9:s<=1000000000
 cp1:1<=cp
 cp2:cp<=1048576
 get:∀j,j<s-r->∃m vs,ms[(r+j)%cp]?=some m/\q[j]?=some (m.1,vs)/\w.ownsRow 0 2 1 (.slice m.2.1 m.2.2.1 m.2.2.2) m.2.2.1 (iv vs)/\(∀g,(Value.slice m.2.1 m.2.2.1 m.2.2.2).ownBlock=some g->S g)/\m.2.2.1<=1000000
def ZaP(S:Nat->Prop)(w:World)(b cp s r:Nat)(q:List (Zfh×List Int)):Prop:=∃A n c pk ms,ZeV S w b cp s r q A n c pk ms
section
variable{S T:Nat→Prop}{w w':World}{b cp s r n c:Nat}{q:List (Zfh×List Int)}{A:Option Addr}{pk:Int}{ms:List ZjX}
theorem ZeV.mono(h:ZeV S w b cp s r q A n c pk ms)(hST:∀i,i<w.heap.size->S i->T i):ZeV T w b cp s r q A n c pk ms:=
 ⟨hST _ h.blk.lt h.sb,h.blk,h.own,fun g hg=>hST g (h.own.lt g hg).2 (h.so g hg),h.len,h.nn,h.ql,h.rs,h.room,h.s9,h.cp1,h.cp2,fun j hj=>by
  obtain⟨m,vs,h1,h2,h3,h4,h5⟩:=h.get j hj;exact⟨m,vs,h1,h2,h3,fun g e=>hST g (h3.lt g e).2 (h4 g e),h5⟩⟩
theorem ZeV.step(h:ZeV S w b cp s r q A n c pk ms)(hs:w.heap.size<=w'.heap.size)(hb:∀i,i<w.heap.size->S i->w'.heap[i]?=w.heap[i]?):ZeV S w' b cp s r q A n c pk ms:=
 ⟨h.sb,Hg.blk h.blk h.sb w' hs hb,Hg.own h.own h.so w' hs hb,h.so,h.len,h.nn,h.ql,h.rs,h.room,h.s9,h.cp1,h.cp2,fun j hj=>by
  obtain⟨m,vs,h1,h2,h3,h4,h5⟩:=h.get j hj;exact⟨m,vs,h1,h2,Hg.own h3 h4 w' hs hb,h4,h5⟩⟩
theorem ZaP.mono(h:ZaP S w b cp s r q)(hST:∀i,i<w.heap.size->S i->T i):ZaP T w b cp s r q:=by
 obtain⟨A,n,c,pk,ms,h⟩:=h;exact⟨A,n,c,pk,ms,h.mono hST⟩
theorem ZaP.step(h:ZaP S w b cp s r q)(hs:w.heap.size<=w'.heap.size)(hb:∀i,i<w.heap.size->S i->w'.heap[i]?=w.heap[i]?):ZaP S w' b cp s r q:=by
 obtain⟨A,n,c,pk,ms,h⟩:=h;exact⟨A,n,c,pk,ms,h.step hs hb⟩
end
theorem ZaA{w:World}{base base':Nat}{e e':TypeId}{size size' n n':Nat}{v v':Value}{xs xs':List Value}(h:w.ownsRow base e size v n xs)(h':w.ownsRow base' e' size' v' n' xs')(hne:e≠e'):∀g,v.ownBlock=some g->v'.ownBlock≠some g:=by
 intro g hg hg'
 rcases h.2 with⟨rfl,_⟩|⟨g1,cap,cur,rfl,_,hh,_⟩
 ·simp[Value.ownBlock] at hg
 ·rcases h'.2 with⟨rfl,_⟩|⟨g2,cap',cur',rfl,_,hh',_⟩
  ·simp[Value.ownBlock] at hg'
  ·have e1:g1=g:=by simpa [Value.ownBlock] using hg
   have e2:g2=g:=by simpa [Value.ownBlock] using hg'
   subst e1;subst e2;rw[hh] at hh';injection hh' with hh'
   injection hh' with _ ht
   exact hne ht
theorem Zu3:∀(ms:List ZjX) (k:Nat) (m:ZjX),k<ms.length ->
  ((((((msV ms).set (k*6) (.int .i64 m.1.1)).set (k*6+1) (.int .i64 m.1.2.1)).set (k*6+2) (.int .i64 m.1.2.2.1)).set (k*6+3) (.int .i64 m.1.2.2.2.1)).set (k*6+4) (.int .i64 m.1.2.2.2.2)).set (k*6+5) (.slice m.2.1 m.2.2.1 m.2.2.2)=msV (ms.set k m):=by
 intro ms
 induction ms with
 |nil=>intro k m h;simp at h
 |cons r l ih=>
  intro k m h;have e:msV (r::l)=Zsg r++msV l:=rfl
  cases k with
  |zero=>rw[e];simp[Zsg,msV]
  |succ k=>
   have h1:=ih k m (by simpa using h);rw[e,show (k+1)*6=k*6+6 by omega];simp only[Zsg,List.cons_append,List.nil_append,List.set_cons_succ,List.set_cons_zero,Nat.add_assoc,Nat.reduceAdd];rw[h1];rfl
theorem ZoM{w:World}{base g n c k:Nat}{e:TypeId}{ms:List ZjX}(h:w.ownsRow base e 6 (.slice (some ⟨g,0,none⟩) n c) n (msV ms))(m:ZjX)(hk:k<ms.length) :
  ((((((w.setCell ⟨g,k*6,none⟩ (.int .i64 m.1.1)).setCell ⟨g,k*6+1,none⟩ (.int .i64 m.1.2.1)).setCell ⟨g,k*6+2,none⟩ (.int .i64 m.1.2.2.1)).setCell ⟨g,k*6+3,none⟩ (.int .i64 m.1.2.2.2.1)).setCell ⟨g,k*6+4,none⟩ (.int .i64 m.1.2.2.2.2)).setCell ⟨g,k*6+5,none⟩ (.slice m.2.1 m.2.2.1 m.2.2.2)).ownsRow base e 6 (.slice (some ⟨g,0,none⟩) n c) n (msV (ms.set k m)) /\
  w.grownBy ((((((w.setCell ⟨g,k*6,none⟩ (.int .i64 m.1.1)).setCell ⟨g,k*6+1,none⟩ (.int .i64 m.1.2.1)).setCell ⟨g,k*6+2,none⟩ (.int .i64 m.1.2.2.1)).setCell ⟨g,k*6+3,none⟩ (.int .i64 m.1.2.2.2.1)).setCell ⟨g,k*6+4,none⟩ (.int .i64 m.1.2.2.2.2)).setCell ⟨g,k*6+5,none⟩ (.slice m.2.1 m.2.2.1 m.2.2.2)) (some g):=by
 obtain⟨s1,g1⟩:=h.stored (k*6) (.int .i64 m.1.1);obtain⟨s2,g2⟩:=s1.stored (k*6+1) (.int .i64 m.1.2.1);obtain⟨s3,g3⟩:=s2.stored (k*6+2) (.int .i64 m.1.2.2.1);obtain⟨s4,g4⟩:=s3.stored (k*6+3) (.int .i64 m.1.2.2.2.1);obtain⟨s5,g5⟩:=s4.stored (k*6+4) (.int .i64 m.1.2.2.2.2);obtain⟨s6,g6⟩:=s5.stored (k*6+5) (.slice m.2.1 m.2.2.1 m.2.2.2);rw[<-Zu3 ms k m hk];exact⟨s6,((((g1.trans g2).trans g3).trans g4).trans g5).trans g6⟩
theorem ZnA{w:World}{b n c cp s r:Nat}{A:Option Addr}{pk:Int}(h:Blk w b 243 (Zf4 A n c cp s r pk))(x:Nat) :
  w.grownBy (w.setCell ⟨b,2,none⟩ (.int .i64 x)) (some b)/\Blk (w.setCell ⟨b,2,none⟩ (.int .i64 x)) b 243 (Zf4 A n c cp x r pk):=
 ⟨Zak (p:=⟨b,2,none⟩) (World.grownBy.refl w _) (.inl rfl) _,by simpa using h.set_ 2 (.int .i64 x)⟩
theorem Zgh{w:World}{b n c cp s r:Nat}{A:Option Addr}{pk:Int}(h:Blk w b 243 (Zf4 A n c cp s r pk))(x:Nat) :
  w.grownBy (w.setCell ⟨b,3,none⟩ (.int .i64 x)) (some b)/\Blk (w.setCell ⟨b,3,none⟩ (.int .i64 x)) b 243 (Zf4 A n c cp s x pk):=
 ⟨Zak (p:=⟨b,3,none⟩) (World.grownBy.refl w _) (.inl rfl) _,by simpa using h.set_ 3 (.int .i64 x)⟩
theorem Ztb{w:World}{b n c cp s r:Nat}{A:Option Addr}{pk:Int}(h:Blk w b 243 (Zf4 A n c cp s r pk))(x:Int) :
  w.grownBy (w.setCell ⟨b,4,none⟩ (.int .i64 x)) (some b)/\Blk (w.setCell ⟨b,4,none⟩ (.int .i64 x)) b 243 (Zf4 A n c cp s r x):=
 ⟨Zak (p:=⟨b,4,none⟩) (World.grownBy.refl w _) (.inl rfl) _,by simpa using h.set_ 4 (.int .i64 x)⟩
theorem ZnB{w:World}{b n c cp s r:Nat}{A:Option Addr}{pk:Int}(h:Blk w b 243 (Zf4 A n c cp s r pk))(A':Option Addr)(n' c':Nat) :
  w.grownBy (w.setCell ⟨b,0,none⟩ (.slice A' n' c')) (some b)/\Blk (w.setCell ⟨b,0,none⟩ (.slice A' n' c')) b 243 (Zf4 A' n' c' cp s r pk):=
 ⟨Zak (p:=⟨b,0,none⟩) (World.grownBy.refl w _) (.inl rfl) _,by simpa using h.set_ 0 (.slice A' n' c')⟩
theorem ZqR{a b cp:Nat}(h1:a<b)(h2:b<a+cp):a%cp≠b%cp:=by
 intro e;have h:=Nat.sub_mod_eq_zero_of_mod_eq e.symm;have:=Nat.eq_zero_of_dvd_of_lt (Nat.dvd_of_mod_eq_zero h) (by omega);omega
def Zjl(S:Nat->Prop)(w:World)(b cp s r:Nat)(q:List (Zfh×List Int))(t:Zfh)(vs:List Int)(e:Ending)(w':World):Prop:=
 e=.returned (.int .i64 0)/\ZaP (fun x=>S x\/w.heap.size<=x) w' b cp (s+1) r (q++[(t,vs)])/\But S w w'
theorem Ztc{w:World}{base:Nat}{e:TypeId}{size n:Nat}{v:Value}{xs:List Value}(h:w.ownsRow base e size v n xs):w.drew.ownsRow base e size v n xs:=h
theorem Zd8{w w':World}{base base':Nat}{e e':TypeId}{size size' n n':Nat}{v v':Value}{xs xs':List Value}(h:w.ownsRow base e size v n xs)(h':w.ownsRow base' e' size' v' n' xs')(hne:e≠e')(hg:w.grownBy w' v'.ownBlock):w'.ownsRow base e size v n xs:=by
 refine h.kept hg ?_
 cases hv:v.ownBlock with
 |none=>exact .inl rfl
 |some g=>exact .inr (fun e=>ZaA h h' hne g hv e.symm)
theorem ZnC{S:Nat->Prop}{w w9:World}{b cp s r n n' c c' B nm c3:Nat}{q:List (Zfh×List Int)}{A A' A3:Option Addr}{pk pk':Int}{ms ms':List ZjX}{t:Zfh}{vs:List Int}(h:ZeV S w b cp s r q A n c pk ms)(hroom:s-r<cp)(hs9:s<1000000000)
  (hbut:But (fun x=>x=b\/(Value.slice A n c).ownBlock=some x) w w9) (hL:Blk w9 b 243 (Zf4 A' n' c' cp (s+1) r pk')) (hO:w9.ownsRow 0 259 6 (.slice A' n' c') n' (msV ms'))
  (hso:∀k,(Value.slice A' n' c').ownBlock=some k->(Value.slice A n c).ownBlock=some k\/w.heap.size<=k) (hlen:ms'.length=n') (hn:n'=min (s+1) cp) (hold:∀j,j<s-r->ms'[(r+j)%cp]?=ms[(r+j)%cp]?) (hnew:ms'[s%cp]?=some (t,(A3,nm,c3)))
  (hV:w9.ownsRow B 2 1 (.slice A3 nm c3) nm (iv vs)) (hB:w.heap.size<=B) (hnm:nm<=1000000) (x:Int):Zjl S w b cp s r q t vs (.returned (.int .i64 0)) (w9.setCell ⟨b,4,none⟩ (.int .i64 x)):=by
 obtain⟨hg,hL2⟩:=Ztb hL x;have hT:But (fun x=>x=b\/(Value.slice A n c).ownBlock=some x) w (w9.setCell ⟨b,4,none⟩ (.int .i64 x)):=hbut.trans (But.of_gr hg (.inl rfl));have hrs:=h.rs;refine⟨rfl,⟨A',n',c',x,ms',.inl h.sb,hL2,hO.kept hg (.inr (Zab hO hL (by decide))),fun k hk=>?_,hlen,hn,by simp[h.ql];omega,by omega,by omega,by omega,h.cp1,h.cp2,fun j hj=>?_⟩,hT.mono (fun i _ hi=>?_)⟩
 ·rcases hso k hk with h1|h1
  ·exact .inl (h.so k h1)
  ·exact .inr h1
 ·by_cases hjo:j<s-r
  ·obtain⟨m,vs',h1,h2,h3,h4,h5⟩:=h.get j hjo;refine⟨m,vs',(hold j hjo).trans h1,?_,Zap h3 hT (fun g' hg' hgT=>?_),fun g hg=>.inl (h4 g hg),h5⟩
   ·rw[YaV (by rw[h.ql];exact hjo)];exact h2
   ·rcases hgT with rfl|hgT
    ·exact Zab h3 h.blk (by decide) hg'
    ·exact ZaA h3 h.own (by decide) g' hg' hgT
  ·have e:r+j=s:=by omega
   refine⟨(t,(A3,nm,c3)),vs,by rw[e];exact hnew,?_,Zae (hV.kept hg (.inr (Zab hV hL (by decide)))) (Nat.zero_le _),fun g hg=>.inr (YaH hB (hV.lt g hg).1),hnm⟩;rw[YaU (by rw[h.ql];omega),h.ql,show j-(s-r)=0 by omega];rfl
 ·rcases hi with rfl|hi
  ·exact h.sb
  ·exact h.so i hi
theorem Zjm(S:Nat->Prop)(b cp s r:Nat)(q:List (Zfh×List Int))(t:Zfh)(vs:List Int)(Am:Option Addr)(nm cm:Nat)(w:World)(h:ZaP S w b cp s r q)(hroom:s-r<cp)(hs9:s<1000000000)(hv:Rd w 1 Am nm (iv vs))(hvl:vs.length=nm)(hnm:nm<=1000000) :
  Calls prog 130 #[.pointer (some ⟨b,0,none⟩),.agg #[.int .i64 t.1,.int .i64 t.2.1,.int .i64 t.2.2.1,.int .i64 t.2.2.2.1,.int .i64 t.2.2.2.2,.slice Am nm cm]] w (Zjl S w b cp s r q t vs):=by
 obtain⟨A,n,c,pk,ms,h⟩:=h;obtain⟨t1,t2,t3,t4,t5⟩:=t;dsimp only;obtain⟨p,hp⟩:∃p,s%cp=p:=⟨_,rfl⟩;have HI:=hid h;have HP:=hid hp;have HV:=hid hv;have hcp1:=h.cp1;have hcp2:=h.cp2;have hrs:=h.rs;have HLN:=hid (fun A n c pk s W (hr:r<=s) (hs:s<=1000000000) (k:Blk W b 243 (Zf4 A n c cp s r pk))=>Zc0 A n c cp s r pk b W k hr (by omega));have HPL:=hid (fun A n c pk W (k:Blk W b 243 (Zf4 A n c cp s r pk))=>by
  have:=Zc1 A n c cp s r pk b W s k hcp1 hcp2 (by omega);rw[hp] at this;exact this)
 have HCP:=hid (fun W (k:Below w.heap.size w W)=>ZhF Am nm cm vs W hvl (hv.below k) (by omega));have HA:Hid (∀W,w.alloc (.cells #[.int .i64 t1,.int .i64 t2,.int .i64 t3,.int .i64 t4,.int .i64 t5,.slice Am nm cm] 259)=W->Below w.heap.size w W/\Blk W w.heap.size 259 #[.int .i64 t1,.int .i64 t2,.int .i64 t3,.int .i64 t4,.int .i64 t5,.slice Am nm cm]):=hid (by
  rintro W rfl;exact⟨bA0 _,Blk.new _ _ _⟩)
 have e0:(((s-r:Nat):Int)==(cp:Int))=false:=by simp;omega
 have hblt:=h.blk.lt;clear h hp hv
 go_enter func130,ntmps130
 go_wp2_with fail;obtain⟨w1,hw1⟩:∃w1,w.alloc (.cells #[.int .i64 t1,.int .i64 t2,.int .i64 t3,.int .i64 t4,.int .i64 t5,.slice Am nm cm] 259)=w1:=⟨_,rfl⟩;obtain⟨hB1,hM1⟩:=HA.out _ hw1;rw[hw1];have HB1:=hid hB1;have HM1:=hid hM1;have hL1:=HI.out.blk.kept hB1;have HL1:=hid hL1;have c1:w1.cell? ⟨b,1,none⟩=some (.int .i64 cp):=hL1.cell 1;have lb1:=hL1.lt;clear hw1 HA hB1 hM1 hL1;go_wp2_with fail;refine Zad (Zag w1) [0,2,3,4,5] [1] [6] (by kernel_rfl) (by kernel_rfl) (Zag.start w1) ?_;simp only[YaO,YaP,YaB,YaC];refine Zaa (.pointer (some ⟨b,0,none⟩)) rfl (fun W hW=>?_) ?_
 ·obtain⟨hc,-,-⟩:=hW;go_simp
 go_simp;refine Zaa (.pointer (some ⟨b,0,none⟩)) rfl (fun W hW=>?_) ?_
 ·obtain⟨hc,-,-⟩:=hW;go_simp
 go_simp;refine Zaa (.pointer (some ⟨b,0,none⟩)) rfl (fun W hW=>?_) ?_
 ·obtain⟨hc,-,-⟩:=hW;go_simp
 go_simp;refine Zaa (.pointer (some ⟨b,1,none⟩)) rfl (fun W hW=>?_) ?_
 ·obtain⟨hc,-,-⟩:=hW;go_simp
 go_simp;refine Zaa (.int .i64 cp) rfl (fun W hW=>?_) ?_
 ·obtain⟨hc,-,-⟩:=hW;go_simp
 go_simp;change Zah _ _ _ _ _ (_::[]) _ _;unfold Zah;go_wp2_with fail;((with_reducible refine(HLN.out A n c pk s _ hrs (by omega) HL1.out.drew).mono ?_);rintro e w2 ⟨rfl,mm,hw2⟩);have hk2:Zag w1 w2:=by rw[hw2];exact(Zag.start w1).drewN mm
 clear hw2;go_wp2_with fail;refine⟨hk2,?_⟩;unfold Zah;change wpList _ _ _ (_::[]) _ _;go_wp2_with fail;refine NoPanic.normal ?_;have HB2:=hid (bT0 HB1.out hk2.2.2);have HM2:=hid (HM1.out.kept hk2.2.2);have HL2:=hid (HL1.out.kept hk2.2.2);clear HB1 HM1 HL1 c1 lb1 hk2;have m5:=HM2.out.cell 5;have lm2:=HM2.out.lt;go_wp2_with fail;((with_reducible refine(HCP.out _ HB2.out).mono ?_);rintro e w3 ⟨A3,c3,rfl,ho3,hb3⟩);have hM3:=HM2.out.kept hb3;have m53:=hM3.cell 5;have hst:=Zak (p:=⟨w.heap.size,5,none⟩) (World.grownBy.refl w3 (some w.heap.size)) (.inl rfl) (.slice A3 nm c3);have HM4:=hid (hM3.set_ 5 (.slice A3 nm c3));have HO4:=hid (ho3.kept hst (.inr (Zab ho3 hM3 (by decide))));have hL4:=(HL2.out.kept hb3).grown hst (by intro e;injection e with e;omega);have HB4:=hid (Zai (bT0 HB2.out hb3) (YaH HB2.out.size hb3.size) hst (YaF _));have HN3:=hid (show w.heap.size<=w2.heap.size from HB2.out.size);have HL4:=hid hL4;have f5:=hM3.frozen 5;have lm3:=hM3.lt;obtain⟨w4,hw4⟩:∃w4,w3.setCell ⟨w.heap.size,5,none⟩ (.slice A3 nm c3)=w4:=⟨_,rfl⟩;rw[hw4] at HM4 HO4 hL4 HB4 HL4;have c2:w4.cell? ⟨b,2,none⟩=some (.int .i64 s):=hL4.cell 2;have c0:w4.cell? ⟨b,0,none⟩=some (.slice A n c):=hL4.cell 0;have lb4:=hL4.lt;clear HB2 HM2 HL2 m5 lm2 ho3 hb3 hM3 hst hL4;go_wp2_with fail;clear hw4 f5 lm3 m53;((with_reducible refine(HPL.out A n c pk w4 HL4.out).mono ?_);rintro e w5 ⟨rfl,hw5⟩);subst hw5;have HM4:Hid (Blk w4 w.heap.size 259 #[.int .i64 t1,.int .i64 t2,.int .i64 t3,.int .i64 t4,.int .i64 t5,.slice A3 nm c3]):=hid HM4.out;have HOR:Hid (w4.ownsRow 0 259 6 (.slice A n c) n (msV ms)):=hid (Zac HI.out.own HB4.out);have HGR:Hid (∀g,(Value.slice A n c).ownBlock=some g->g<w.heap.size):=hid (fun g hg=>(HI.out.own.lt g hg).2);have hnn:=HI.out.nn;have hlen:=HI.out.len;have hpp:=HP.out
 by_cases hsc:s<cp
 ·obtain rfl:n=s:=by omega
  have hpn:p=n:=by rw[<-hpp];exact Nat.mod_eq_of_lt hsc
  have e1:decide ((p:Int)<(n:Int))=false:=YaI (by omega);clear hnn hpp;go_wp2_with fail;refine Zad (fun W=>Blk W b 243 (Zf4 A n c cp n r pk)/\Blk W w.heap.size 259 #[.int .i64 t1,.int .i64 t2,.int .i64 t3,.int .i64 t4,.int .i64 t5,.slice A3 nm c3]) [0,1,2,3,4,5] [6,7] [8,9,10] (by kernel_rfl) (by kernel_rfl) (⟨HL4.out.drew,HM4.out.drew⟩) ?_;simp only[YaO,YaP,YaB,YaC];refine Zaa (.pointer (some ⟨b,0,none⟩)) rfl (fun W hW=>?_) ?_
  ·obtain⟨hx,hy⟩:=hW;have h0:=hx.cell 0;have g0:=hy.cell 0;have g1:=hy.cell 1;have g2:=hy.cell 2;have g3:=hy.cell 3;have g4:=hy.cell 4;have g5:=hy.cell 5;go_simp
  go_simp;refine Zaa (.pointer (some ⟨b,0,none⟩)) rfl (fun W hW=>?_) ?_
  ·obtain⟨hx,hy⟩:=hW;have h0:=hx.cell 0;have g0:=hy.cell 0;have g1:=hy.cell 1;have g2:=hy.cell 2;have g3:=hy.cell 3;have g4:=hy.cell 4;have g5:=hy.cell 5;go_simp
  go_simp;refine Zaa (.pointer (some ⟨b,0,none⟩)) rfl (fun W hW=>?_) ?_
  ·obtain⟨hx,hy⟩:=hW;have h0:=hx.cell 0;have g0:=hy.cell 0;have g1:=hy.cell 1;have g2:=hy.cell 2;have g3:=hy.cell 3;have g4:=hy.cell 4;have g5:=hy.cell 5;go_simp
  go_simp;refine Zaa (.pointer (some ⟨b,0,none⟩)) rfl (fun W hW=>?_) ?_
  ·obtain⟨hx,hy⟩:=hW;have h0:=hx.cell 0;have g0:=hy.cell 0;have g1:=hy.cell 1;have g2:=hy.cell 2;have g3:=hy.cell 3;have g4:=hy.cell 4;have g5:=hy.cell 5;go_simp
  go_simp;refine Zaa (.slice A n c) rfl (fun W hW=>?_) ?_
  ·obtain⟨hx,hy⟩:=hW;have h0:=hx.cell 0;have g0:=hy.cell 0;have g1:=hy.cell 1;have g2:=hy.cell 2;have g3:=hy.cell 3;have g4:=hy.cell 4;have g5:=hy.cell 5;go_simp
  go_simp;refine Zaa (.agg #[.int .i64 t1,.int .i64 t2,.int .i64 t3,.int .i64 t4,.int .i64 t5,.slice A3 nm c3]) rfl (fun W hW=>?_) ?_
  ·obtain⟨hx,hy⟩:=hW;have h0:=hx.cell 0;have g0:=hy.cell 0;have g1:=hy.cell 1;have g2:=hy.cell 2;have g3:=hy.cell 3;have g4:=hy.cell 4;have g5:=hy.cell 5;go_simp
  go_simp;change Zah _ _ _ _ _ (_::_::[]) _ _;unfold Zah;go_wp2_with fail;refine⟨⟨(HL4.out.drew).alloc _,(HM4.out.drew).alloc _⟩,?_⟩;unfold Zah;change wpList _ _ _ (_::[]) _ (w4.drew.alloc (.cells #[.int .i64 t1,.int .i64 t2,.int .i64 t3,.int .i64 t4,.int .i64 t5,.slice A3 nm c3] 259))
  go_wp2_with (at_builtin;go_must (refine Zaj (w:=w4.drew) Zxa rfl _ _ rfl 0 (.slice A n c) n (msV ms) rfl (show w4.drew.ownsRow 0 259 6 (.slice A n c) n (msV ms) from HOR.out) #[.int .i64 t1,.int .i64 t2,.int .i64 t3,.int .i64 t4,.int .i64 t5,.slice A3 nm c3] w4.drew.heap.size rfl rfl rfl (Zta ((t1,t2,t3,t4,t5),(A3,nm,c3))) (by unfold maxLen;omega) (by omega) (by omega) ?_);go_must (intro A' c' w6 hown6 hb6 hg6 hat6))
  have hg6':w4.grownBy w6 (Value.slice A n c).ownBlock:=ZaB ((bR0 w4.heap.size w4).drew) hg6;have HL5:=hid (HL4.out.other HOR.out hg6' (by decide));have HM5:=hid (HM4.out.grown hg6' (fun e=>by have:=HGR.out _ e.symm;omega));have HO6:Hid (w6.ownsRow 0 259 6 (.slice A' (n+1) c') (n+1) (msV (ms++[((t1,t2,t3,t4,t5),(A3,nm,c3))]))):=hid (by rw[ZoL];exact hown6);have HG6:=hid hg6';have HA6:=hid hat6;clear hown6 hb6 hg6 hg6' hat6 c0 c2 lb4;refine⟨⟨HL5.out,HM5.out⟩,?_⟩;unfold Zah;change wpList _ _ _ (_::_::_::[]) _ _;have v1:w6.cell? ⟨b,0,none⟩=some (.slice A n c):=HL5.out.cell 0;have f1:=HL5.out.frozen 0;have l6:=HL5.out.lt;go_wp2_with fail;refine NoPanic.normal ?_;have hg7:=(ZnB HL5.out A' (n+1) c').1;have HL7:=hid (ZnB HL5.out A' (n+1) c').2;have HO7:=hid (HO6.out.kept hg7 (.inr (Zab HO6.out HL5.out (by decide))));obtain⟨w7,hw7⟩:∃w7,w6.setCell ⟨b,0,none⟩ (.slice A' (n+1) c')=w7:=⟨_,rfl⟩;rw[hw7] at hg7 HL7 HO7 ⊢;have HV6:=Zd8 HO4.out HOR.out (by decide) HG6.out;have HV7:=hid (HV6.kept hg7 (.inr (Zab HV6 HL5.out (by decide))));have HG7:=hid hg7;clear hw7 hg7 v1 f1 l6;obtain⟨s,rfl⟩:∃s,s=n:=⟨_,rfl⟩;have c2:w7.cell? ⟨b,2,none⟩=some (.int .i64 s):=HL7.out.cell 2;have f2:=HL7.out.frozen 2;have l7:=HL7.out.lt;obtain⟨s1,hs1⟩:∃s1,s+1=s1:=⟨_,rfl⟩;have hwr:IntKind.i64.wrap ((s:Int)+1)=(s1:Int):=by rw[show (s:Int)+1=(s1:Int) by omega];exact IntWalk.i64_in _ (by omega)
  have HS1:=hid hs1;have hr1:r<=s1:=by omega
  have hs19:s1<=1000000000:=by omega
  clear hs1;go_wp2_with fail;go_region;have hg8:w7.grownBy (w7.setCell ⟨b,2,none⟩ (.int .i64 s1)).drew (some b):=ZcS (Zak (p:=⟨b,2,none⟩) (World.grownBy.refl w7 _) (.inl rfl) _);have HL8:=hid (ZnA HL7.out s1).2.drew;obtain⟨w8,hw8⟩:∃w8,(w7.setCell ⟨b,2,none⟩ (.int .i64 s1)).drew=w8:=⟨_,rfl⟩;rw[hw8] at hg8 HL8 ⊢;have HG8:=hid hg8;clear hw8 hg8 c2 f2 l7;have c4:w8.cell? ⟨b,4,none⟩=some (.int .i64 pk):=HL8.out.cell 4;have l8:=HL8.out.lt;go_wp2_with fail;refine Zad (Zag w8) [0,1,2,3,4,5] [6,7] [8,9,10] (by kernel_rfl) (by kernel_rfl) (Zag.start w8) ?_;simp only[YaO,YaP,YaB,YaC];refine Zaa (.pointer (some ⟨b,0,none⟩)) rfl (fun W hW=>?_) ?_
  ·obtain⟨hc,-,-⟩:=hW;go_simp
  go_simp;refine Zaa (.pointer (some ⟨b,0,none⟩)) rfl (fun W hW=>?_) ?_
  ·obtain⟨hc,-,-⟩:=hW;go_simp
  go_simp;refine Zaa (.pointer (some ⟨b,0,none⟩)) rfl (fun W hW=>?_) ?_
  ·obtain⟨hc,-,-⟩:=hW;go_simp
  go_simp;refine Zaa (.pointer (some ⟨b,4,none⟩)) rfl (fun W hW=>?_) ?_
  ·obtain⟨hc,-,-⟩:=hW;go_simp
  go_simp;refine Zaa (.int .i64 pk) rfl (fun W hW=>?_) ?_
  ·obtain⟨hc,-,-⟩:=hW;go_simp
  go_simp;refine Zaa (.pointer (some ⟨b,0,none⟩)) rfl (fun W hW=>?_) ?_
  ·obtain⟨hc,-,-⟩:=hW;go_simp
  go_simp;change Zah _ _ _ _ _ (_::_::[]) _ _;unfold Zah;go_wp2_with fail;((with_reducible refine(HLN.out A' (s+1) c' pk s1 _ hr1 hs19 HL8.out.drew).mono ?_);rintro e w9 ⟨rfl,mm,hw9⟩);have hk9:Zag w8 w9:=by rw[hw9];exact(Zag.start w8).drewN mm
  clear hw9;go_wp2_with fail;refine⟨hk9,?_⟩;have HL9:=hid (HL8.out.kept hk9.2.2);have HG9:=hid (ZpH HG8.out hk9.2.2);have HO9:=hid (HO7.out.kept HG9.out (.inr (Zab HO7.out HL7.out (by decide))));have HV9:=hid (HV7.out.kept HG9.out (.inr (Zab HV7.out HL7.out (by decide))));have HFIN:Hid (∀x:Int,Zjl S w b cp s r q (t1,t2,t3,t4,t5) vs (.returned (.int .i64 0)) (w9.setCell ⟨b,4,none⟩ (.int .i64 x))):=hid (by
   have hL9:=HL9.out;rw[<-HS1.out] at hL9;refine ZnC HI.out hroom hs9 (((((But.of_below _ HB4.out).trans (But.of_own HG6.out (fun g hg=>.inr hg))).trans (But.of_gr HG7.out (.inl rfl))).trans (But.of_gr HG9.out (.inl rfl)))) hL9 HO9.out (fun k hk=>?_) (by simp[hlen]) (by omega) (fun j hj=>YaV (by rw[hlen];exact Nat.lt_of_le_of_lt (Nat.mod_le _ _) (by omega))) ?_ HV9.out HN3.out hnm
   ·rcases HA6.out k hk with h|h
    ·exact .inl h
    ·exact .inr (by have:=HB4.out.size;have e:w4.drew.heap.size=w4.heap.size:=rfl;omega)
   ·rw[HP.out,hpn,YaU (by omega),hlen];simp)
  unfold Zah;change wpList _ _ _ (_::[]) _ _;have c4:w9.cell? ⟨b,4,none⟩=some (.int .i64 pk):=HL9.out.cell 4;have f4:=HL9.out.frozen 4;have l9:=HL9.out.lt;go_wp2_with fail
  all_goals refine⟨hk9,?_⟩
  all_goals unfold Zah
  all_goals change wpList _ _ _ (_::_::_::[]) _ _
  all_goals go_wp2_with fail
  all_goals refine NoPanic.normal ?_
  all_goals go_wp2_with fail
  all_goals go_ret
  all_goals exact HFIN.out _
 ·obtain rfl:n=cp:=by omega
  have hpn:p<n:=by rw[<-hpp];exact Nat.mod_lt _ hcp1
  have e1:decide ((p:Int)<(n:Int))=true:=YaJ (by omega);clear hnn hpp;obtain⟨m0,hm0⟩:∃m0,ms[p]?=some m0:=⟨_,YaA (by omega)⟩;obtain⟨g,rfl,lg,hc⟩:=Zmy HOR.out hm0 hpn;obtain⟨⟨u1,u2,u3,u4,u5⟩,ua,un,uc⟩:=m0;have q0:w4.cell? ⟨g,p*6,none⟩=some (.int .i64 u1):=hc 0 (by omega);have q1:w4.cell? ⟨g,p*6+1,none⟩=some (.int .i64 u2):=hc 1 (by omega);have q2:w4.cell? ⟨g,p*6+2,none⟩=some (.int .i64 u3):=hc 2 (by omega);have q3:w4.cell? ⟨g,p*6+3,none⟩=some (.int .i64 u4):=hc 3 (by omega);have q4:w4.cell? ⟨g,p*6+4,none⟩=some (.int .i64 u5):=hc 4 (by omega);have q5:w4.cell? ⟨g,p*6+5,none⟩=some (.slice ua un uc):=hc 5 (by omega);have hfz:∀o,w4.frozen? ⟨g,o,none⟩=false:=fun o=>by
   obtain⟨cur,hcur⟩:=ZcL HOR.out;simp[World.frozen?,hcur]
  have z0:=hfz (p*6);have z1:=hfz (p*6+1);have z2:=hfz (p*6+2);have z3:=hfz (p*6+3);have z4:=hfz (p*6+4);have z5:=hfz (p*6+5);have g0:=HM4.out.cell 0;have g1:=HM4.out.cell 1;have g2:=HM4.out.cell 2;have g3:=HM4.out.cell 3;have g4:=HM4.out.cell 4;have g5:=HM4.out.cell 5;have lm4:=HM4.out.lt;have i1:(0:Int)<=(p:Int):=by omega
  have i2:(p:Int)<(n:Int):=by omega
  clear hc hfz;go_wp2_with fail;go_region;obtain⟨hO7,hg7⟩:=ZoM HOR.out ((t1,t2,t3,t4,t5),(A3,nm,c3)) (show p<ms.length by omega);dsimp only at hO7 hg7;have HL7:=hid ((HL4.out.other HOR.out hg7 (by decide)).drew);have HV7:=hid (Zd8 HO4.out HOR.out (by decide) (ZcS hg7));obtain⟨w7,hw7⟩:∃w7,((((((w4.setCell ⟨g,p*6,none⟩ (.int .i64 t1)).setCell ⟨g,p*6+1,none⟩ (.int .i64 t2)).setCell ⟨g,p*6+2,none⟩ (.int .i64 t3)).setCell ⟨g,p*6+3,none⟩ (.int .i64 t4)).setCell ⟨g,p*6+4,none⟩ (.int .i64 t5)).setCell ⟨g,p*6+5,none⟩ (.slice A3 nm c3)).drew=w7:=⟨_,rfl⟩;have HG7:Hid (w4.grownBy w7 (some g)):=hid (by rw[<-hw7];exact ZcS hg7);have HO7:Hid (w7.ownsRow 0 259 6 (.slice (some ⟨g,0,none⟩) n c) n (msV (ms.set p ((t1,t2,t3,t4,t5),(A3,nm,c3))))):=hid (by rw[<-hw7];exact Ztc hO7);rw[hw7] at HL7 HV7 ⊢;clear hw7 hO7 hg7 q0 q1 q2 q3 q4 q5 z0 z1 z2 z3 z4 z5 g0 g1 g2 g3 g4 g5 lm4 c0 c2 lb4 i1 i2;obtain⟨cp,rfl⟩:∃cp,cp=n:=⟨_,rfl⟩;have c2:w7.cell? ⟨b,2,none⟩=some (.int .i64 s):=HL7.out.cell 2;have f2:=HL7.out.frozen 2;have l7:=HL7.out.lt;obtain⟨s1,hs1⟩:∃s1,s+1=s1:=⟨_,rfl⟩;have hwr:IntKind.i64.wrap ((s:Int)+1)=(s1:Int):=by rw[show (s:Int)+1=(s1:Int) by omega];exact IntWalk.i64_in _ (by omega)
  have HS1:=hid hs1;have hr1:r<=s1:=by omega
  have hs19:s1<=1000000000:=by omega
  clear hs1;go_wp2_with fail;go_region;have hg8:w7.grownBy (w7.setCell ⟨b,2,none⟩ (.int .i64 s1)).drew (some b):=ZcS (Zak (p:=⟨b,2,none⟩) (World.grownBy.refl w7 _) (.inl rfl) _);have HL8:=hid (ZnA HL7.out s1).2.drew;obtain⟨w8,hw8⟩:∃w8,(w7.setCell ⟨b,2,none⟩ (.int .i64 s1)).drew=w8:=⟨_,rfl⟩;rw[hw8] at hg8 HL8 ⊢;have HG8:=hid hg8;clear hw8 hg8 c2 f2 l7;have c4:w8.cell? ⟨b,4,none⟩=some (.int .i64 pk):=HL8.out.cell 4;have l8:=HL8.out.lt;go_wp2_with fail;refine Zad (Zag w8) [0,1,2,3,4,5] [6,7] [8,9,10] (by kernel_rfl) (by kernel_rfl) (Zag.start w8) ?_;simp only[YaO,YaP,YaB,YaC];refine Zaa (.pointer (some ⟨b,0,none⟩)) rfl (fun W hW=>?_) ?_
  ·obtain⟨hc,-,-⟩:=hW;go_simp
  go_simp;refine Zaa (.pointer (some ⟨b,0,none⟩)) rfl (fun W hW=>?_) ?_
  ·obtain⟨hc,-,-⟩:=hW;go_simp
  go_simp;refine Zaa (.pointer (some ⟨b,0,none⟩)) rfl (fun W hW=>?_) ?_
  ·obtain⟨hc,-,-⟩:=hW;go_simp
  go_simp;refine Zaa (.pointer (some ⟨b,4,none⟩)) rfl (fun W hW=>?_) ?_
  ·obtain⟨hc,-,-⟩:=hW;go_simp
  go_simp;refine Zaa (.int .i64 pk) rfl (fun W hW=>?_) ?_
  ·obtain⟨hc,-,-⟩:=hW;go_simp
  go_simp;refine Zaa (.pointer (some ⟨b,0,none⟩)) rfl (fun W hW=>?_) ?_
  ·obtain⟨hc,-,-⟩:=hW;go_simp
  go_simp;change Zah _ _ _ _ _ (_::_::[]) _ _;unfold Zah;go_wp2_with fail;((with_reducible refine(HLN.out (some ⟨g,0,none⟩) (cp) c pk s1 _ hr1 hs19 HL8.out.drew).mono ?_);rintro e w9 ⟨rfl,mm,hw9⟩);have hk9:Zag w8 w9:=by rw[hw9];exact(Zag.start w8).drewN mm
  clear hw9;go_wp2_with fail;refine⟨hk9,?_⟩;have HL9:=hid (HL8.out.kept hk9.2.2);have HG9:=hid (ZpH HG8.out hk9.2.2);have HO9:=hid (HO7.out.kept HG9.out (.inr (Zab HO7.out HL7.out (by decide))));have HV9:=hid (HV7.out.kept HG9.out (.inr (Zab HV7.out HL7.out (by decide))));have HFIN:Hid (∀x:Int,Zjl S w b cp s r q (t1,t2,t3,t4,t5) vs (.returned (.int .i64 0)) (w9.setCell ⟨b,4,none⟩ (.int .i64 x))):=hid (by
   have hL9:=HL9.out;rw[<-HS1.out] at hL9;refine ZnC HI.out hroom hs9 ((((But.of_below _ HB4.out).trans (But.of_gr HG7.out (.inr rfl))).trans (But.of_gr HG9.out (.inl rfl)))) hL9 HO9.out (fun k hk=>.inl hk) (by simp[hlen]) (by omega) (fun j hj=>?_) ?_ HV9.out HN3.out hnm
   ·rw[List.getElem?_set_ne];rw[<-HP.out];exact(ZqR (by omega) (by omega)).symm
   ·rw[HP.out,List.getElem?_set_self (by omega)])
  unfold Zah;change wpList _ _ _ (_::[]) _ _;have c4:w9.cell? ⟨b,4,none⟩=some (.int .i64 pk):=HL9.out.cell 4;have f4:=HL9.out.frozen 4;have l9:=HL9.out.lt;go_wp2_with fail
  all_goals refine⟨hk9,?_⟩
  all_goals unfold Zah
  all_goals change wpList _ _ _ (_::_::_::[]) _ _
  all_goals go_wp2_with fail
  all_goals refine NoPanic.normal ?_
  all_goals go_wp2_with fail
  all_goals go_ret
  all_goals exact HFIN.out _
theorem Zv9{a w w':World}(h:Below a.heap.size w w')(hs:a.heap.size=w.heap.size):∀b o,b<w.heap.size->w'.cell? ⟨b,o,none⟩=w.cell? ⟨b,o,none⟩:=fun b o hb=>h.cell (p:=⟨b,o,none⟩) (by rw[hs];exact hb)
def ZqS(S:Nat->Prop)(w:World)(b cp s r:Nat)(q:List (Zfh×List Int))(t:Zfh)(vs:List Int)(e:Ending)(w':World):Prop:=
 ∃A n c,e=.returned (.tuple #[.agg #[.int .i64 t.1,.int .i64 t.2.1,.int .i64 t.2.2.1,.int .i64 t.2.2.2.1,.int .i64 t.2.2.2.2,.slice A n c],.int .i64 0])/\ZaP S w' b cp s (r+1) q/\But (fun x=>x=b) w w'/\w'.ownsRow 0 2 1 (.slice A n c) n (iv vs)/\n<=1000000/\(∀g,(Value.slice A n c).ownBlock=some g->S g)
theorem But.setc{S:Nat->Prop}{a w:World}(h:But S a w){p:Addr}(hp:a.heap.size<=p.block)(u:Value):But S a (w.setCell p u):=
 ⟨h.os,h.tape,h.output,by simpa [World.setCell] using h.size,fun i hi hn=>(Below.heap_setCell w p u i (by omega)).trans (h.block i hi hn)⟩
theorem Ztd{S:Nat->Prop}{w w9:World}{b cp s r n c nm cm:Nat}{q:List (Zfh×List Int)}{A Am:Option Addr}{pk:Int}{ms:List ZjX}{t:Zfh}{vs:List Int}(h:ZeV S w b cp s r ((t,vs)::q) A n c pk ms)
  (hV:w.ownsRow 0 2 1 (.slice Am nm cm) nm (iv vs)) (hVS:∀g,(Value.slice Am nm cm).ownBlock=some g->S g) (hnm:nm<=1000000) (hbut:But (fun x=>x=b) w w9) (hL:Blk w9 b 243 (Zf4 A n c cp s (r+1) pk)) :
  ZqS S w b cp s r q t vs (.returned (.tuple #[.agg #[.int .i64 t.1,.int .i64 t.2.1,.int .i64 t.2.2.1,.int .i64 t.2.2.2.1,.int .i64 t.2.2.2.2,.slice Am nm cm],.int .i64 0])) w9:=by
 have hql:=h.ql;simp at hql;have hrm:=h.room;refine⟨Am,nm,cm,rfl,⟨A,n,c,pk,ms,h.sb,hL,Zap h.own hbut (fun g hg e=>?_),h.so,h.len,h.nn,by omega,by omega,by omega,h.s9,h.cp1,h.cp2,fun j hj=>?_⟩,hbut,Zap hV hbut (fun g hg e=>?_),hnm,hVS⟩
 ·subst e;exact Zab h.own h.blk (by decide) hg
 ·obtain⟨m,vs',h1,h2,h3,h4,h5⟩:=h.get (j+1) (by omega);refine⟨m,vs',by rw[show r+1+j=r+(j+1) by omega];exact h1,by simpa using h2,Zap h3 hbut (fun g hg e=>?_),h4,h5⟩;subst e;exact Zab h3 h.blk (by decide) hg
 ·subst e;exact Zab hV h.blk (by decide) hg
theorem Zjn(S:Nat->Prop)(b cp s r:Nat)(q:List (Zfh×List Int))(t:Zfh)(vs:List Int)(w:World)(h:ZaP S w b cp s r ((t,vs)::q)) :
    Calls prog 265 #[.pointer (some ⟨b,0,none⟩),.agg #[.int .i64 t.1,.int .i64 t.2.1,.int .i64 t.2.2.1,.int .i64 t.2.2.2.1,.int .i64 t.2.2.2.2]] w (ZqS S w b cp s r q t vs):=by
  obtain⟨A,n,c,pk,ms,h⟩:=h;have hrs:r<s:=by have:=h.ql;simp at this;omega
  obtain⟨m,vs',hm,hq,hV,hVS,hmn⟩:=h.get 0 (by omega);rw[Nat.add_zero] at hm;have hq2:(t,vs)=(m.1,vs'):=by simpa using hq
  injection hq2 with hq3 hq4
  subst hq4;obtain⟨mt,Am,nm,cm⟩:=m;obtain rfl:t=mt:=hq3;obtain⟨t1,t2,t3,t4,t5⟩:=t;dsimp only at hV hVS hmn hm ⊢;obtain⟨p,hp⟩:∃p,r%cp=p:=⟨_,rfl⟩;have hs9:=h.s9;have HPK':∀W,Below w.heap.size w W->Calls prog 279 #[.pointer (some ⟨b,0,none⟩)] W fun e w'=>e=.returned (.tuple #[.agg #[.int .i64 t1,.int .i64 t2,.int .i64 t3,.int .i64 t4,.int .i64 t5],.bool true])/\Below W.heap.size W w':=(fun W (k:Below w.heap.size w W)=>Zjk A n c cp s r pk b W ms _ 0 (h.blk.kept k) hrs (by omega) h.cp1 h.cp2 (Zac h.own k) hm h.len)
  have HPK:=hid HPK';clear HPK';rw[hp] at hm;have hpn:p<n:=by rw[<-h.len];exact(YaG.1 hm).1
  obtain⟨g,rfl,lg,hc⟩:=Zmy h.own hm hpn;have q0:w.cell? ⟨g,p*6,none⟩=some (.int .i64 t1):=hc 0 (by omega);have q1:w.cell? ⟨g,p*6+1,none⟩=some (.int .i64 t2):=hc 1 (by omega);have q2:w.cell? ⟨g,p*6+2,none⟩=some (.int .i64 t3):=hc 2 (by omega);have q3:w.cell? ⟨g,p*6+3,none⟩=some (.int .i64 t4):=hc 3 (by omega);have q4:w.cell? ⟨g,p*6+4,none⟩=some (.int .i64 t5):=hc 4 (by omega);have q5:w.cell? ⟨g,p*6+5,none⟩=some (.slice Am nm cm):=hc 5 (by omega);have c0:w.cell? ⟨b,0,none⟩=some (.slice (some ⟨g,0,none⟩) n c):=h.blk.cell 0;have c3:w.cell? ⟨b,3,none⟩=some (.int .i64 r):=h.blk.cell 3;have lb:=h.blk.lt;have hcp1:=h.cp1;have hcp2:=h.cp2;have HPL:=hid (fun W (k:Zag w W)=>by
    have:=Zc1 (some ⟨g,0,none⟩) n c cp s r pk b W r (h.blk.kept k.2.2) hcp1 hcp2 (by omega);rw[hp] at this;exact this)
  have HI:=hid h;have HV:=hid hV;have HVS:=hid hVS;have i1:(0:Int)<=(p:Int):=by omega
  have i2:(p:Int)<(n:Int):=by omega
  obtain⟨w0,hw0⟩:∃w0,(w.alloc (.cells #[.int .i64 t1,.int .i64 t2,.int .i64 t3,.int .i64 t4,.int .i64 t5] 216)).alloc (.cells #[.int .i64 0,.int .i64 0,.int .i64 0,.int .i64 0,.int .i64 0,.slice none 0 0] 259)=w0:=⟨_,rfl⟩;have HW0:=hid hw0;have HB0:Hid (Below w.heap.size w w0):=hid (by rw[<-hw0];exact(bA0 _).alloc (by simp) _);have HT0:Hid (Blk w0 w.heap.size 216 #[.int .i64 t1,.int .i64 t2,.int .i64 t3,.int .i64 t4,.int .i64 t5]):=hid (by rw[<-hw0];exact(Blk.new w _ _).alloc _);have HM0:Hid (Blk w0 (w.heap.size+1) 259 #[.int .i64 0,.int .i64 0,.int .i64 0,.int .i64 0,.int .i64 0,.slice none 0 0]):=hid (by rw[<-hw0];exact Blk.new' _ _ (by simp));clear hc h hm hp hV hVS hw0 hq
  go_enter func265,ntmps265
  go_wp2_with fail;rw[HW0.out];((with_reducible refine(HPK.out w0 HB0.out).mono ?_);rintro e w1 ⟨rfl,hb1⟩);have HB1:=hid (bT0 HB0.out hb1);have HT1:=hid (HT0.out.kept hb1);have HM1:=hid (HM0.out.kept hb1);obtain⟨w2,hw2⟩:∃w2,w1.alloc (.cells #[.int .i64 t1,.int .i64 t2,.int .i64 t3,.int .i64 t4,.int .i64 t5] 216)=w2:=⟨_,rfl⟩;have hz1:=HB1.out.size;have HB2:Hid (Below w.heap.size w w2):=hid (by rw[<-hw2];exact HB1.out.alloc hz1 _);have HT2:Hid (Blk w2 w.heap.size 216 #[.int .i64 t1,.int .i64 t2,.int .i64 t3,.int .i64 t4,.int .i64 t5]):=hid (by rw[<-hw2];exact HT1.out.alloc _);have HM2:Hid (Blk w2 (w.heap.size+1) 259 #[.int .i64 0,.int .i64 0,.int .i64 0,.int .i64 0,.int .i64 0,.slice none 0 0]):=hid (by rw[<-hw2];exact HM1.out.alloc _);have HN2:Hid (Blk w2 w1.heap.size 216 #[.int .i64 t1,.int .i64 t2,.int .i64 t3,.int .i64 t4,.int .i64 t5]):=hid (by rw[<-hw2];exact Blk.new _ _ _);have HW2:=hid hw2;have HTL:=hid HT1.out.lt;clear hw2 hb1;have s0:=HT1.out.cell 0;have s1:=HT1.out.cell 1;have s2:=HT1.out.cell 2;have s3:=HT1.out.cell 3;have s4:=HT1.out.cell 4;have sl:=HT1.out.lt;go_wp2_with fail;rw[HW2.out];clear s0 s1 s2 s3 s4 sl;have hc2:=Zv9 HB2.out rfl;rw[<-hc2 b 0 lb] at c0;rw[<-hc2 b 3 lb] at c3;rw[<-hc2 g _ lg] at q0 q1 q2 q3 q4 q5;have lb2:b<w2.heap.size:=YaK lb HB2.out.size;have lg2:g<w2.heap.size:=YaK lg HB2.out.size;have KS:Zag w w2.drew:=Zag.of HB2.out.drew;have K2:Zag w2 w2.drew:=Zag.start w2;have KN:Zag w w2:=Zag.of HB2.out;have KM:Zag w2 w2:=Zag.of (bR0 _ _);obtain⟨w4,hw4⟩:∃w4,(w2.alloc (.cells #[.int .i64 t1,.int .i64 t2,.int .i64 t3,.int .i64 t4,.int .i64 t5,.slice Am nm cm] 259)).drew=w4:=⟨_,rfl⟩;have HB4:Hid (Below w.heap.size w w4):=hid (by rw[<-hw4];exact(HB2.out.alloc HB2.out.size _).drew);have HM4:Hid (Blk w4 (w.heap.size+1) 259 #[.int .i64 0,.int .i64 0,.int .i64 0,.int .i64 0,.int .i64 0,.slice none 0 0]):=hid (by rw[<-hw4];exact(HM2.out.alloc _).drew);have HN4:Hid (Blk w4 w2.heap.size 259 #[.int .i64 t1,.int .i64 t2,.int .i64 t3,.int .i64 t4,.int .i64 t5,.slice Am nm cm]):=hid (by rw[<-hw4];exact(Blk.new _ _ _).drew);have hN2:w.heap.size+1<w2.heap.size:=HM2.out.lt;have HW4:=hid hw4;clear hw4;clear hc2
  go_region_held3 (fun w'=>Zag w2 w') (first|exact K2|exact K2.alloc _) (first
    | (go_at_call 193;(with_reducible refine(HPL.out _ (by first|exact KS|exact(KN.alloc _).drew|exact KS.alloc _)).mono ?_);rintro e w3 ⟨rfl,hw3⟩;subst hw3))
  all_goals rw[HW4.out]
  all_goals clear c0 c3 q0 q1 q2 q3 q4 q5 lb2 lg2 KS K2 KN KM
  all_goals have hL4:=HI.out.blk.kept HB4.out
  all_goals have c3:w4.cell? ⟨b,3,none⟩=some (.int .i64 r):=hL4.cell 3
  all_goals have f3:=hL4.frozen 3
  all_goals have l4:=hL4.lt
  all_goals have HL4:=hid hL4
  all_goals clear hL4
  all_goals obtain⟨r1,hr1⟩:∃r1,r+1=r1:=⟨_,rfl⟩
  all_goals have hwr:IntKind.i64.wrap ((r:Int)+1)=(r1:Int):=by rw[show (r:Int)+1=(r1:Int) by omega];exact IntWalk.i64_in _ (by omega)
  all_goals have HR1:=hid hr1
  all_goals clear hr1
  all_goals go_wp2_with fail
  all_goals go_region
  all_goals have hL5:=(Zgh HL4.out r1).2.drew
  all_goals have hg5:=ZcS (Zgh HL4.out r1).1
  all_goals have hM5:=(HM4.out.grown (Zgh HL4.out r1).1 (by intro e;injection e with e;omega)).drew
  all_goals have hN5:=(HN4.out.grown (Zgh HL4.out r1).1 (by intro e;injection e with e;omega)).drew
  all_goals obtain⟨w5,hw5⟩:∃w5,(w4.setCell ⟨b,3,none⟩ (.int .i64 r1)).drew=w5:=⟨_,rfl⟩
  all_goals rw[hw5] at hL5 hg5 hM5 hN5 ⊢
  all_goals clear hw5 c3 f3 l4
  all_goals have m0:=hM5.cell 0
  all_goals have m1:=hM5.cell 1
  all_goals have m2:=hM5.cell 2
  all_goals have m3:=hM5.cell 3
  all_goals have m4:=hM5.cell 4
  all_goals have m5:=hM5.cell 5
  all_goals have z0:=hM5.frozen 0
  all_goals have z1:=hM5.frozen 1
  all_goals have z2:=hM5.frozen 2
  all_goals have z3:=hM5.frozen 3
  all_goals have z4:=hM5.frozen 4
  all_goals have z5:=hM5.frozen 5
  all_goals have lm:=hM5.lt
  all_goals have n0:=hN5.cell 0
  all_goals have n1:=hN5.cell 1
  all_goals have n2:=hN5.cell 2
  all_goals have n3:=hN5.cell 3
  all_goals have n4:=hN5.cell 4
  all_goals have n5:=hN5.cell 5
  all_goals have ln:=hN5.lt
  all_goals have HL5:=hid hL5
  all_goals have HG5:=hid hg5
  all_goals have HM5:=hid hM5
  all_goals clear hL5 hg5 hM5 hN5
  all_goals go_wp2_with fail
  all_goals refine bodyPost_ret (v:=.tuple #[.agg #[.int .i64 t1,.int .i64 t2,.int .i64 t3,.int .i64 t4,.int .i64 t5,.slice Am nm cm],.int .i64 0]) (by simp[results,results265,go_sem,m0,m1,m2,m3,m4,m5,lm]) rfl ?_
  all_goals refine Ztd HI.out HV.out HVS.out hmn ?_ ?_
  all_goals first
    | (repeat (refine But.setc (p:=⟨w.heap.size+1,_,none⟩) ?_ (show w.heap.size<=w.heap.size+1 by omega) _)
       exact(But.of_below (fun x=>x=b) HB4.out).trans (But.of_gr (S:=fun x=>x=b) HG5.out rfl))
    | (rw[HR1.out]
       repeat (refine Blk.far (p:=⟨w.heap.size+1,_,none⟩) ?_ (show b≠w.heap.size+1 by omega) _)
       exact HL5.out)
def uv(l:List Int):List Value:=l.map (Value.int .u64)
theorem Zwa(l:List Int)(k:Nat)(hk:k<l.length):(uv l)[k]?=some (.int .u64 l[k]):=by simp[uv,hk]
theorem Zwb(l:List Int):∀u∈uv l,u.oneCell'=true:=by
 intro u hu;unfold uv at hu;simp only[List.mem_map] at hu;obtain⟨x,_,rfl⟩:=hu;rfl
theorem Zwc{w:World}{A:Option Addr}{n k:Nat}{l:List Int}(hl:l.length=n)(h:Rd w 1 A n (uv l))(hk:k<n):∃b o x,A=some ⟨b,o,none⟩/\b<w.heap.size/\l[k]?=some x/\w.cell? ⟨b,o+k,none⟩=some (.int .u64 x):=by
 obtain⟨b,o,e,hb,hc⟩:=h.2 (by omega);have hk':k<l.length:=by omega
 exact⟨b,o,l[k],e,hb,YaA hk',hc _ _ (Zwa l k hk')⟩
theorem Zxb:Sl prog 27 135 (.int .u64 0) 1 8:=⟨underlying27,by kernel_rfl,rfl,by omega⟩
def InU(l:List Int):Prop:=∀x∈l,0<=x/\x<18446744073709551616
structure Stm(w:World)(b:Nat)(A:Option Addr)(n cap k:Nat)(L:List Int):Prop where
 blk:Blk w b 299 #[.slice A n cap,.int .i64 k]
 len:L.length=n
 le:k<=n
 rd:Rd w 1 A n (uv L)
 apart:∀b' o,A=some ⟨b',o,none⟩->0<n->b'≠b
 inb:InU L
theorem Stm.kept{w w':World}{b:Nat}{A:Option Addr}{n cap k:Nat}{L:List Int}(h:Stm w b A n cap k L)(hb:Below w.heap.size w w'):Stm w' b A n cap k L:=
 ⟨h.blk.kept hb,h.len,h.le,h.rd.below hb,h.apart,h.inb⟩
theorem Stm.turned{w w':World}{b:Nat}{A:Option Addr}{n cap k k':Nat}{L:List Int}(h:Stm w b A n cap k L)(hg:w.grownBy w' (some b))(hb:Blk w' b 299 #[.slice A n cap,.int .i64 k'])(hk:k'<=n):Stm w' b A n cap k' L:=
 ⟨hb,h.len,hk,h.rd.grown hg h.apart,h.apart,h.inb⟩
theorem ZoN(A:Option Addr)(n cap:Nat)(l:List Int)(w:World)(hl:l.length=n)(h:Rd w 1 A n (uv l))(hn:n*8<=140737488351232) :
  Calls prog 162 #[.slice A n cap] w (Zal w 135 1 n (uv l)):=by
 have HR:=hid h;have HL:=hid hl;have hq:=fun(w:World) (a:Option Addr) (n c:Nat)=>Lib.run_eql_slice_nil (P:=prog) w 27 135 a n c 0 0 underlying27
 clear h hl
 cases A with
 |none=>
  have hn0:n=0:=by
   rcases Nat.eq_zero_or_pos n with h0|h0
   ·exact h0
   ·obtain⟨b,o,h,_⟩:=HR.out.2 h0;cases h
  subst hn0;have hl0:l=[]:=List.eq_nil_of_length_eq_zero HL.out;subst hl0
  go_enter func162,ntmps162
  go_wp2;go_ret;exact⟨none,0,rfl,World.ownsRow_nil _ _ _ _,bR0 _ _⟩
 |some ad=>
  go_enter func162,ntmps162
  go_wp2_with (at_builtin;go_must (refine Za5 Zxb rfl _ _ rfl w.heap.size _ 0 [] rfl (World.ownsRow_lit w #[] 0 (YaF _) (by unfold maxLen;omega) rfl) (some ad) n cap (uv l) rfl (HR.out.alloc _) (Zwb l) (by unfold maxLen;omega) (by omega) (by simp) ?_);intro A' cap' w1 hown1 hb1)
  go_ret;exact⟨A',cap',by simp,by simpa using hown1,(bA0 _).trans hb1⟩
def Zwd(w:World)(n:Nat)(l:List Int)(en:Ending)(w':World):Prop:=
 ∃g A cap,en=.returned (.pointer (some ⟨g,0,none⟩))/\Stm w' g A n cap 0 l/\w.heap.size<=g/\(∀b o,A=some ⟨b,o,none⟩->w.heap.size<=b)/\Below w.heap.size w w'
theorem Zmz(A:Option Addr)(n cap:Nat)(l:List Int)(w:World)(hl:l.length=n)(h:Rd w 1 A n (uv l))(hn:n*8<=140737488351232)(hu:InU l) :
  Calls prog 78 #[.slice A n cap] w (Zwd w n l):=by
 have HR:=hid h;have HL:=hid hl;have HU:=hid hu;clear h hl hu
 go_enter func78,ntmps78
 go_wp2_with fail;((with_reducible refine(ZoN A n cap l _ HL.out HR.out (by omega)).mono ?_);rintro e w1 ⟨A',cap',rfl,hown,hb1⟩);have HO:=hid hown;clear hown;go_wp2;go_ret;refine⟨w1.heap.size,A',cap',rfl,⟨Blk.new _ _ _,HL.out,Nat.zero_le _,(Rd.of_own HO.out).alloc _,fun b' o e _=>?_,HU.out⟩,hb1.size,fun b o e=>(Zbf HO.out b o e).1,hb1.alloc hb1.size _⟩;have:=(Zbf HO.out b' o e).2;omega
theorem Zgi(b:Nat)(A:Option Addr)(n cap k:Nat)(w:World)(h:Blk w b 299 #[.slice A n cap,.int .i64 k])(hk:k<=n)(hn:n<=9223372036854775807) :
  Calls prog 213 #[.pointer (some ⟨b,0,none⟩)] w fun e w'=>e=.returned (.int .i64 ((n:Int)-(k:Int)))/\∃m,w'=w.drewN m:=by
 have c0:=cv0 h;have c1:w.cell? ⟨b,1,none⟩=some (.int .i64 k):=h.cell 1;clear h
 go_enter func213,ntmps213
 go_wp2_with fail
 go_quiet (fail)
 go_wp2;go_ret;exact⟨rfl,_,rfl⟩
def Zt9(w:World)(b:Nat)(A:Option Addr)(n cap k:Nat)(v:Value)(en:Ending)(w':World):Prop:=
 en=.returned v/\w.grownBy w' (some b)/\Blk w' b 299 #[.slice A n cap,.int .i64 k]
theorem ZnD{x m:Int}(hx:0<=x)(hm:1<=m)(hm2:m<=9223372036854775807):wrap64 (x%m)=x%m:=by
 have h1:=Int.emod_nonneg x (show m≠0 by omega);have h2:=Int.emod_lt_of_pos x (show 0<m by omega);exact IntWalk.wrap64_in _ ⟨by omega,by omega⟩
theorem ZqT(b:Nat)(A:Option Addr)(n cap k:Nat)(L:List Int)(m x:Int)(w:World)(h:Stm w b A n cap k L)(hm:1<=m)(hm2:m<=9223372036854775807)(hn:n<=9223372036854775807)(hx:L[k]?=some x) :
  Calls prog 215 #[.pointer (some ⟨b,0,none⟩),.int .i64 m] w (Zt9 w b A n cap (k+1) (.tuple #[.int .i64 (x%m),.bool true])):=by
 have hk:k<n:=by rw[<-h.len];exact(YaG.1 hx).1
 obtain⟨b',o,x',rfl,hbl,hx',c2⟩:=Zwc h.len h.rd hk;obtain rfl:x'=x:=by rw[hx] at hx';injection hx' with e;exact e.symm
 have hxb:=h.inb x' (YaL hx);have hne:=h.apart b' o rfl (by omega);have HB:=hid h.blk;have hd:((n:Int)-(k:Int)==0)=false:=by simp;omega
 have c0:w.cell? ⟨b,0,none⟩=some (.slice (some ⟨b',o,none⟩) n cap):=h.blk.cell 0;have c1:w.cell? ⟨b,1,none⟩=some (.int .i64 k):=h.blk.cell 1;have f1:=h.blk.frozen 1;have i1:(0:Int)<=(k:Int):=by omega
 have i2:(k:Int)<(n:Int):=by omega
 clear h hx hx'
 go_enter func215,ntmps215
 go_wp2_with fail;((with_reducible refine(Zgi b _ n cap k _ HB.out (by omega) hn).mono ?_);rintro e w1 ⟨rfl,q,rfl⟩);go_wp2_with fail
 go_quiet (fail)
 go_wp2
 go_ret2
 refine⟨ZeA (congrArg (Value.int .i64) (ZnD hxb.1 hm hm2)),?_,?_⟩
 ·exact Zgc (Zak (World.grownBy.refl _ _) (.inl rfl) _) _
 ·exact(HB.out.set_ 1 _).drewN _
theorem ZkI(A:Option Addr)(n cap k:Nat)(L:List Int)(m x:Int)(w:World)(hl:L.length=n)(h:Rd w 1 A n (uv L))(hu:InU L)(hm:1<=m)(hm2:m<=9223372036854775807)(hn:n<=9223372036854775807)(hx:L[k]?=some x) :
  Calls prog 226 #[.agg #[.slice A n cap,.int .i64 k],.int .i64 m] w fun e w'=>e=.returned (.tuple #[.agg #[.slice A n cap,.int .i64 ((k+1:Nat):Int)],.int .i64 (x%m),.bool true])/\Below w.heap.size w w':=by
 have hk:k<n:=by rw[<-hl];exact(YaG.1 hx).1
 obtain⟨b',o,x',rfl,hbl,hx',c2⟩:=Zwc hl h hk;obtain rfl:x'=x:=by rw[hx] at hx';injection hx' with e;exact e.symm
 have hxb:=hu x' (YaL hx);clear h hx hx' hl hu
 go_enter func226,ntmps226
 go_wp2;go_region;go_wp2;exact bodyPost_ret (v:=.tuple #[.agg #[.slice (some ⟨b',o,none⟩) n cap,.int .i64 ((k+1:Nat):Int)],.int .i64 (x'%m),.bool true]) (by simp[results,results226,go_sem,ZnD hxb.1 hm hm2]) rfl ⟨rfl,((bA0 _).alloc (by simp) _).drew⟩
abbrev SlN:=Option Addr×Nat×Nat
def ZlD(vs:List SlN):List Value:=vs.map fun s=>.slice s.1 s.2.1 s.2.2
theorem ZkJ(vs:List SlN)(s:SlN):ZlD (vs++[s])=ZlD vs++[.slice s.1 s.2.1 s.2.2]:=by simp[ZlD]
theorem ZnE{vs:List SlN}{i:Nat}{s:SlN}(h:vs[i]?=some s):(ZlD vs)[i]?=some (.slice s.1 s.2.1 s.2.2):=by simp[ZlD,h]
theorem ZdS{w:World}{base base':Nat}{e e':TypeId}{size size' n n':Nat}{v v':Value}{xs xs':List Value}(h:w.ownsRow base e size v n xs)(h':w.ownsRow base' e' size' v' n' xs')(hne:e≠e'):v.ownBlock=none\/v.ownBlock≠v'.ownBlock:=by
 rcases h'.2 with⟨rfl,_⟩|⟨g',cap,cur,rfl,_,hh,_⟩
 ·rcases h.2 with⟨rfl,_⟩|⟨g,cap,cur,rfl,_⟩
  ·exact .inl (by simp[Value.ownBlock])
  ·exact .inr (by simp[Value.ownBlock])
 ·exact .inr (by have:=Zab h (g:=g') (t:=e') (cs:=cur) hh hne;simpa [Value.ownBlock] using this)
structure Zez(w:World)(base:Nat)(vs:List SlN)(ls:List (List Int)):Prop where
 len:vs.length=ls.length
 row:∀(i:Nat) (s:SlN) (l:List Int),vs[i]?=some s->ls[i]?=some l->s.2.1=l.length/\w.ownsRow base 3 1 (.slice s.1 s.2.1 s.2.2) s.2.1 (iv l)
theorem Zez.nil(w:World)(base:Nat):Zez w base [] []:=⟨rfl,fun i s l h=>by simp at h⟩
theorem Zez.below{w w':World}{base:Nat}{vs:List SlN}{ls:List (List Int)}(h:Zez w base vs ls)(hb:Below w.heap.size w w'):Zez w' base vs ls:=
 ⟨h.len,fun i s l h1 h2=>⟨(h.row i s l h1 h2).1,Zac (h.row i s l h1 h2).2 hb⟩⟩
theorem Zez.base{w:World}{base base':Nat}{vs:List SlN}{ls:List (List Int)}(h:Zez w base vs ls)(hb:base'<=base):Zez w base' vs ls:=
 ⟨h.len,fun i s l h1 h2=>⟨(h.row i s l h1 h2).1,Zae (h.row i s l h1 h2).2 hb⟩⟩
theorem Zez.but{w w':World}{S:Nat->Prop}{base:Nat}{vs:List SlN}{ls:List (List Int)}(h:Zez w base vs ls)(hb:But S w w')
  (hv:∀(v:Value) (n:Nat) (xs:List Value) (g:Nat),w.ownsRow base 3 1 v n xs->v.ownBlock=some g->¬S g):Zez w' base vs ls:=
 ⟨h.len,fun i s l h1 h2=>⟨(h.row i s l h1 h2).1,Zap (h.row i s l h1 h2).2 hb (fun g e=>hv _ _ _ g (h.row i s l h1 h2).2 e)⟩⟩
theorem Zez.rowkept{w w':World}{base base':Nat}{t:TypeId}{size n:Nat}{v:Value}{xs:List Value}{vs:List SlN}{ls:List (List Int)}(h:Zez w base vs ls)(hv:w.ownsRow base' t size v n xs)(ht:3≠t)(hg:w.grownBy w' v.ownBlock):Zez w' base vs ls:=
 ⟨h.len,fun i s l h1 h2=>⟨(h.row i s l h1 h2).1,(h.row i s l h1 h2).2.kept hg (ZdS (h.row i s l h1 h2).2 hv ht)⟩⟩
theorem Zez.snoc{w:World}{base:Nat}{vs:List SlN}{ls:List (List Int)}{s:SlN}{l:List Int}(h:Zez w base vs ls)(hl:s.2.1=l.length)(h1:w.ownsRow base 3 1 (.slice s.1 s.2.1 s.2.2) s.2.1 (iv l)):Zez w base (vs++[s]) (ls++[l]):=by
 refine⟨by simp[h.len],fun i s' l' hs hl'=>?_⟩;rw[List.getElem?_append] at hs hl';rw[h.len] at hs
 split at hs
 ·rename_i hi
  rw[if_pos hi] at hl';exact h.row i s' l' hs hl'
 ·rename_i hi
  rw[if_neg hi] at hl';have:i-ls.length=0:=by
   have:=(YaG.1 hs).1;simp at this;omega
  rw[this] at hs hl';simp at hs hl';subst hs hl';exact⟨hl,h1⟩
theorem Zua:Sl prog 82 22 (.slice none 0 0) 1 24:=⟨underlying82,by kernel_rfl,rfl,by omega⟩
theorem ZqU(A:Option Addr)(n c:Nat):∀u∈(#[Value.slice A n c]:Array Value).toList,u.oneCell'=true:=by
 intro u hu;simp at hu;subst hu;rfl
theorem ZqV{l:List Int}{N:Nat}(h:l.length=N)(lo n:Nat)(hfit:lo+n<=N):((l.drop lo).take n).length=n:=by simp;omega
theorem ZeW(x:Int):∀u∈(#[Value.int .i64 x]:Array Value).toList,u.oneCell'=true:=by
 intro u hu;simp at hu;subst hu;rfl
def Zd9(bs:List Int):Bool:=bs.any fun x=>decide (x<1)
theorem ZnF{bs:List Int}{k:Nat}{x:Int}(h:bs[k]?=some x)(hx:x<1):Zd9 bs=true:=by
 unfold Zd9;rw[List.any_eq_true];exact⟨x,YaL h,by simpa using hx⟩
theorem ZnG{bs:List Int}{n:Nat}(hl:bs.length=n)(h:∀j x,j<n->bs[j]?=some x->1<=x):Zd9 bs=false:=by
 unfold Zd9;rw[List.any_eq_false];intro x hx;obtain⟨i,hi,rfl⟩:=List.mem_iff_getElem.1 hx;have:=h i _ (by omega) (YaA hi);simp;omega
def Zwe(bs:List Int)(w:World)(e:Ending)(w':World):Prop:=∃v:Int,e=.returned (.int .i64 v)/\decide (0<=v)=Zd9 bs/\w=w'
theorem Zjo(A:Option Addr)(n cap:Nat)(bs:List Int)(w:World)(hl:bs.length=n)(h:Rd w 1 A n (iv bs))(hn:n<=9223372036854775807) :
  Calls prog 180 #[.slice A n cap,.func (.func 214) #[] #[]] w (Zwe bs w):=by
 have HL:=hid hl;have HR:=hid h;clear hl h
 go_enter func180,ntmps180
 go_wp2_with fail
 go_loop [8] (fun c=>∃k:Nat,k<=n/\c=.int .i64 k/\Hid (∀j x,j<k->bs[j]?=some x->1<=x)) (fun c=>n-(intOf c).toNat)
 case atStart=>exact⟨0,by omega,rfl,hid (fun j x h=>by omega)⟩
 case round=>
  obtain⟨k,hk,rfl,he⟩:=hrel
  by_cases hlt:k<n
  ·obtain⟨b,o,x,rfl,hbl,hx,c1⟩:=Zb7 HL.out HR.out hlt;have HX:=hid hx;clear hx
   by_cases hlow:x<1
   ·go_wp2;go_ret;exact⟨k,rfl,by rw[ZnF HX.out hlow];simp,rfl⟩
   ·go_wp2
    go_round
    case rel=>
     refine⟨k+1,by omega,by go_num,hid (fun j y hj hy=>?_)⟩
     by_cases hjk:j<k
     ·exact he.out j y hjk hy
     ·obtain rfl:j=k:=by omega
      rw[HX.out] at hy;injection hy with hy
      omega
    case measure=>simp[intOf];omega
  ·obtain rfl:k=n:=by omega
   go_wp2;go_ret;exact⟨-1,rfl,by rw[ZnG HL.out he.out];rfl,rfl⟩
theorem Zdc(A:Option Addr)(n cap:Nat)(bs:List Int)(w:World)(hl:bs.length=n)(h:Rd w 1 A n (iv bs))(hn:n<=9223372036854775807) :
  Calls prog 102 #[.slice A n cap,.func (.func 214) #[] #[]] w fun e w'=>e=.returned (.bool (Zd9 bs))/\w=w':=by
 have HL:=hid hl;have HR:=hid h;clear hl h
 go_enter func102,ntmps102
 go_wp2_with fail;((with_reducible refine(Zjo A n cap bs _ HL.out HR.out hn).mono ?_);rintro e w1 ⟨v,rfl,hv,rfl⟩);have HV:=hid hv;clear hv;go_wp2_with fail;go_ret;exact⟨Zao HV.out,rfl⟩
def Zfv(L:List Int)(k:Nat)(bs:List Int):List Int:=List.zipWith (fun x m=>x%m) (L.drop k) bs
theorem ZfN(L:List Int)(k:Nat)(bs:List Int)(h:bs.length<=L.length-k):(Zfv L k bs).length=bs.length:=by
 simp[Zfv];omega
theorem ZeX(L:List Int)(k:Nat)(bs:List Int)(j:Nat)(x m:Int)(hx:L[k+j]?=some x)(hm:bs[j]?=some m):(Zfv L k bs)[j]?=some (x%m):=by
 unfold Zfv;rw[List.getElem?_zipWith,List.getElem?_drop,hx,hm]
theorem ZkK(l:List Int)(k:Nat)(x:Int)(h:l[k]?=some x):iv (l.take (k+1))=iv (l.take k)++[.int .i64 x]:=by
 obtain⟨hk,hx⟩:=YaG.1 h;rw[List.take_succ_eq_append_getElem hk,Zbq,hx];rfl
theorem ZqW(b:Nat)(A B:Option Addr)(n cap k m d:Nat)(bs:List Int)(w:World)(h:Blk w b 299 #[.slice A n cap,.int .i64 k])(hk:k<=n)(hn:n<=9223372036854775807)(hl:bs.length=m)(hr:Rd w 1 B m (iv bs))(hm:m<=9223372036854775807)
  (hno:n-k<m\/Zd9 bs=true) :
  Calls prog 163 #[.pointer (some ⟨b,0,none⟩),.slice B m d] w (Zt9 w b A n cap k (.tuple #[.slice none 0 0,.bool false])):=by
 have HB:=hid h;have HL:=hid hl;have HR:=hid hr;clear h hl hr
 by_cases hs:n-k<m
 ·have d1:decide ((n:Int)-(k:Int)<(m:Int))=true:=by simp;omega
  clear hno
  go_enter func163,ntmps163
  go_wp2_with fail;((with_reducible refine(Zgi b A n cap k _ HB.out (by omega) hn).mono ?_);rintro e w1 ⟨rfl,q,rfl⟩);go_wp2_with fail
  go_ret2
  exact⟨rfl,Zgc (World.grownBy.refl _ _) _,HB.out.drewN _⟩
 ·have d1:decide ((n:Int)-(k:Int)<(m:Int))=false:=by simp;omega
  have HN:Hid (Zd9 bs=true):=hid (by rcases hno with h|h;exact absurd h hs;exact h);clear hno
  go_enter func163,ntmps163
  go_wp2_with fail;((with_reducible refine(Zgi b A n cap k _ HB.out (by omega) hn).mono ?_);rintro e w1 ⟨rfl,q,rfl⟩);go_wp2_with fail;((with_reducible refine(Zdc B m d bs _ HL.out (HR.out.drewN _) hm).mono ?_);rintro e w1 ⟨rfl,rfl⟩);rw[HN.out];go_wp2_with fail
  go_ret2
  exact⟨rfl,Zgc (World.grownBy.refl _ _) _,HB.out.drewN _⟩
def Zu4(w:World)(b:Nat)(A:Option Addr)(n cap k m:Nat)(l:List Int)(en:Ending)(w':World):Prop:=
 ∃A' c',en=.returned (.tuple #[.slice A' m c',.bool true])/\w'.ownsRow w.heap.size 3 1 (.slice A' m c') m (iv l)/\w.grownBy w' (some b)/\Blk w' b 299 #[.slice A n cap,.int .i64 k]
theorem ZqX(b:Nat)(A B:Option Addr)(n cap k m d:Nat)(L bs:List Int)(w:World)(h:Stm w b A n cap k L)(hn:n<=10000000)(hl:bs.length=m)(hr:Rd w 1 B m (iv bs))(hB:∀b' o,B=some ⟨b',o,none⟩->0<m->b'≠b)
  (hfit:k+m<=n) (hlow:Zd9 bs=false) (hbd:∀x∈bs,x<=9223372036854775807) :
  Calls prog 163 #[.pointer (some ⟨b,0,none⟩),.slice B m d] w (Zu4 w b A n cap (k+m) m (Zfv L k bs)):=by
 have HL:=hid hl;have HR:=hid hr;have HS:=hid h;have HN:=hid hlow;have HB:=hid hB;have HD:=hid hbd;have hblt:=h.blk.lt;have hkn:=h.le;have d1:decide ((n:Int)-(k:Int)<(m:Int))=false:=by simp;omega
 have HM:Hid ((Zfv L k bs).length=m):=hid (by rw[ZfN L k bs (by rw[h.len];omega),hl]);have hpos:Hid (∀(j:Nat) (x:Int),bs[j]?=some x->1<=x):=hid (by
  intro j x hx
  rcases Int.lt_or_le x 1 with h1|h1
  ·rw[ZnF hx h1] at hlow;cases hlow
  ·exact h1)
 clear h hl hr hlow hB hbd
 go_enter func163,ntmps163
 go_wp2_with fail;((with_reducible refine(Zgi b A n cap k _ HS.out.blk (by omega) (by omega)).mono ?_);rintro e w1 ⟨rfl,q,rfl⟩);go_wp2_with fail;((with_reducible refine(Zdc B m d bs _ HL.out (HR.out.drewN _) (by omega)).mono ?_);rintro e w1 ⟨rfl,rfl⟩);rw[HN.out];go_wp2_with fail
 go_loopw [6,26] (fun v c wr=>∃j:Nat,j<=m/\c=.int .i64 j/\(∃A' c',v=.slice A' j c')/\wr.ownsRow w.heap.size 3 1 v j (iv ((Zfv L k bs).take j))/\w.grownBy wr (some b)/\Blk wr b 299 #[.slice A n cap,.int .i64 ((k+j:Nat):Int)]) (fun _ c _=>m-(intOf c).toNat)
 case atStart=>exact⟨0,by omega,rfl,⟨none,0,rfl⟩,by simpa [iv] using World.ownsRow_nil _ _ _ _,Zgc (World.grownBy.refl _ _) _,HS.out.blk.drewN _⟩
 case round=>
  obtain⟨j,hj,rfl,⟨A',c',rfl⟩,hown,hg,hblk⟩:=hrel
  by_cases hlt:j<m
  ·have hst:=HS.out.turned hg hblk (by omega);have hbw:b≠w.heap.size:=by omega
   obtain⟨b2,o2,y,hBe,hbl2,hy,cy⟩:=Zb7 HL.out (HR.out.grown hg HB.out) hlt;subst hBe;have hkj:k+j<L.length:=by rw[HS.out.len];omega
   have hx:=YaA hkj;generalize L[k+j]=x at hx;have HY:=hid (hpos.out j y hy);have HT:=hid (ZkK _ j _ (ZeX L k bs j x y hx hy));have HC:=hid (ZqT b A n cap (k+j) L y x _ hst HY.out (HD.out y (YaL hy)) (by omega) hx);have HO:=hid hown;have HG:=hid hg;clear hst hown hg hblk hx hy;go_wp2_with fail;((with_reducible refine HC.out.mono ?_);rintro e w1 ⟨rfl,hg1,hblk1⟩);have hown1:w1.ownsRow w.heap.size 3 1 (.slice A' j c') j (iv ((Zfv L k bs).take j)):=HO.out.kept hg1 (by
    cases hA:(Value.slice A' j c').ownBlock with
    |none=>exact .inl rfl
    |some g=>refine .inr ?_;intro e;injection e with e;have:=(HO.out.lt g hA).1;omega)
   have hg2:=HG.out.trans hg1;have hsz:=hg2.size;have HO1:=hid hown1;have HB1:=hid hblk1;have HG2:=hid hg2;clear hown1 hblk1 hg1 hg2 HO HG HC
   go_wp2_with (at_builtin;go_must (refine Zav Zhr rfl _ _ rfl w.heap.size _ j (iv ((Zfv L k bs).take j)) rfl HO1.out #[.int .i64 (x%y)] _ rfl rfl rfl (ZeW _) (by unfold maxLen;omega) (by omega) hsz ?_);intro A2 c2 w2 hown2 hb2)
   go_roundw
   case rel=>exact⟨j+1,by omega,by go_num,⟨A2,c2,rfl⟩,by rw[HT.out];exact hown2,ZiX HG2.out hb2,HB1.out.below hb2 hblt⟩
   case measure=>simp[intOf];omega
  ·obtain rfl:j=m:=by omega
   go_wp2
   go_ret2
   refine⟨A',c',rfl,?_,hg,hblk⟩;rw[YaX (by rw[HM.out];omega)] at hown;exact hown
