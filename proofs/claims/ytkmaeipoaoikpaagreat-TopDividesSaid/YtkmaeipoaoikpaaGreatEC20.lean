/- Lemmas. -/
import Derived.Test.YtkmaeipoaoikpaaGreatEC19
namespace Go.Proofs.YtkmaeipoaoikpaaGreat
set_option linter.all false
set_option maxRecDepth 100000
set_option maxHeartbeats 2000000
open Lib (hid)
open Tryz
section
open Go.RowKit
structure LS where
 s:Nat
 r:Nat
 q:List (Zfh×List Int)
abbrev ZgX(AW:Option Addr)(n cW:Nat)(AL:Option Addr)(k cL cnt:Nat):Array Value:=#[.slice AW n cW,.slice AL k cL,.int .i64 cnt]
abbrev ifV(b:Nat):Value:=.iface 37 (.pointer (some ⟨b,0,none⟩))
abbrev ptV(b:Nat):Value:=.pointer (some ⟨b,0,none⟩)
theorem Zxu:Sl prog 122 212 .nilIface 1 16:=⟨underlying122,by kernel_rfl,rfl,by omega⟩
theorem Zxv:Sl prog 123 126 (.pointer none) 1 8:=⟨underlying123,by kernel_rfl,rfl,by omega⟩
structure ZcE(own:Nat->Nat)(w:World)(I:InC)(mbs lbs:List Nat)(mss:List MS)(lss:List LS):Prop where
 lm:mss.length=mbs.length
 ll:lss.length=lbs.length
 mach:∀(i b:Nat) (s:MS),mbs[i]?=some b->mss[i]?=some s->Zaz (fun j=>own j=2*i+2) w b (I.mc i) s
 link:∀(i b:Nat) (l:LS),lbs[i]?=some b->lss[i]?=some l->ZaP (fun j=>own j=2*i+3) w b I.c.ca.toNat l.s l.r l.q
end
section
open Go.RowKit
variable{own own':Nat→Nat}{w w':World}{I:InC}{mbs lbs:List Nat}{mss:List MS}{lss:List LS}
theorem ZcE.move(h:ZcE own w I mbs lbs mss lss)(hs:w.heap.size<=w'.heap.size)(hb:∀i,i<w.heap.size->2<=own i->w'.heap[i]?=w.heap[i]?)(hl:∀i,i<w.heap.size->own' i=own i):ZcE own' w' I mbs lbs mss lss:=
 ⟨h.lm,h.ll,fun i b s h1 h2=>((h.mach i b s h1 h2).mono (T:=fun j=>own' j=2*i+2) (fun j hj e=>by rw[hl j hj];exact e)).step hs (fun j hj e=>hb j hj (by rw[<-hl j hj,e];omega)),
  fun i b l h1 h2=>((h.link i b l h1 h2).mono (T:=fun j=>own' j=2*i+3) (fun j hj e=>by rw[hl j hj];exact e)).step hs (fun j hj e=>hb j hj (by rw[<-hl j hj,e];omega))⟩
theorem ZcE.addM(h:ZcE own w I mbs lbs mss lss){b:Nat}{s:MS}{k:Nat}(hk:mbs.length=k)(hm:Zaz (fun j=>own j=2*k+2) w b (I.mc k) s):ZcE own w I (mbs++[b]) lbs (mss++[s]) lss:=by
 refine⟨by simp[h.lm],h.ll,fun i b' s' h1 h2=>?_,h.link⟩
 by_cases hi:i<mbs.length
 ·rw[YaV hi] at h1;rw[YaV (by rw[h.lm];exact hi)] at h2;exact h.mach i b' s' h1 h2
 ·have hi2:i<(mbs++[b]).length:=(YaG.1 h1).1;obtain rfl:i=k:=by simp at hi2;omega
  rw[YaU (by omega),hk,Nat.sub_self] at h1;rw[YaU (by rw[h.lm];omega),h.lm,hk,Nat.sub_self] at h2;simp at h1 h2;subst h1 h2;exact hm
theorem ZcE.addL(h:ZcE own w I mbs lbs mss lss){b:Nat}{l:LS}{k:Nat}(hk:lbs.length=k)(hm:ZaP (fun j=>own j=2*k+3) w b I.c.ca.toNat l.s l.r l.q):ZcE own w I mbs (lbs++[b]) mss (lss++[l]):=by
 refine⟨h.lm,by simp[h.ll],h.mach,fun i b' s' h1 h2=>?_⟩
 by_cases hi:i<lbs.length
 ·rw[YaV hi] at h1;rw[YaV (by rw[h.ll];exact hi)] at h2;exact h.link i b' s' h1 h2
 ·have hi2:i<(lbs++[b]).length:=(YaG.1 h1).1;obtain rfl:i=k:=by simp at hi2;omega
  rw[YaU (by omega),hk,Nat.sub_self] at h1;rw[YaU (by rw[h.ll];omega),h.ll,hk,Nat.sub_self] at h2;simp at h1 h2;subst h1 h2;exact hm
structure Zar(own:Nat->Nat)(w:World)(xb:Nat)(I:InC)(mbs lbs:List Nat)(mss:List MS)(lss:List LS)(AW:Option Addr)(cW:Nat)(AL:Option Addr)(cL cnt:Nat):Prop where
 blk:Blk w xb 125 (ZgX AW mbs.length cW AL lbs.length cL cnt)
 ox:own xb=1
 wrow:w.ownsRow 0 212 1 (.slice AW mbs.length cW) mbs.length (mbs.map ifV)
 lrow:w.ownsRow 0 126 1 (.slice AL lbs.length cL) lbs.length (lbs.map ptV)
 ow:∀g,ZaX AW=some g->own g=1
 ol:∀g,ZaX AL=some g->own g=1
 parts:ZcE own w I mbs lbs mss lss
theorem Zar.step{xb:Nat}{AW AL:Option Addr}{cW cL cnt:Nat}(h:Zar own w xb I mbs lbs mss lss AW cW AL cL cnt)(hs:w.heap.size<=w'.heap.size)(hb:∀i,i<w.heap.size->1<=own i->w'.heap[i]?=w.heap[i]?)(hl:∀i,i<w.heap.size->own' i=own i):Zar own' w' xb I mbs lbs mss lss AW cW AL cL cnt:=
 ⟨(hb xb h.blk.lt (by rw[h.ox];exact YaF _)).trans h.blk,(hl xb h.blk.lt).trans h.ox,Hg.own (S:=fun i=>own i=1) h.wrow (fun g hg=>h.ow g ((Zaf _ _ _).symm.trans hg)) w' hs (fun i hi e=>hb i hi (by omega)),
  Hg.own (S:=fun i=>own i=1) h.lrow (fun g hg=>h.ol g ((Zaf _ _ _).symm.trans hg)) w' hs (fun i hi e=>hb i hi (by omega)),fun g hg=>(hl g (h.wrow.lt g ((Zaf _ _ _).trans hg)).2).trans (h.ow g hg),fun g hg=>(hl g (h.lrow.lt g ((Zaf _ _ _).trans hg)).2).trans (h.ol g hg),h.parts.move hs (fun i hi e=>hb i hi (by omega)) hl⟩
theorem Zar.below{xb:Nat}{AW AL:Option Addr}{cW cL cnt:Nat}(h:Zar own w xb I mbs lbs mss lss AW cW AL cL cnt)(hb:Below w.heap.size w w')(hl:∀i,i<w.heap.size->own' i=own i):Zar own' w' xb I mbs lbs mss lss AW cW AL cL cnt:=h.step hb.size (fun i hi _=>hb.block i hi) hl
end
section
open Go.RowKit
def lab(own:Nat->Nat)(n k:Nat):Nat->Nat:=fun j=>if j<n then own j else k
theorem ZbV(own:Nat->Nat)(n k:Nat):∀i,i<n->lab own n k i=own i:=fun i hi=>if_pos hi
theorem Zfx(own:Nat->Nat)(n k:Nat){i:Nat}(hi:n<=i):lab own n k i=k:=if_neg (by omega)
theorem Zjy{own:Nat->Nat}{n k B:Nat}(h:∀j,own j≠0->B<=j)(hB:B<=n):∀j,lab own n k j≠0->B<=j:=by
 intro j hj;unfold lab at hj
 split at hj
 ·exact h j hj
 ·omega
end
section
open Go.RowKit
variable{own:Nat→Nat}{w wa:World}{I:InC}{mbs lbs:List Nat}{mss mss':List MS}{lss lss':List LS}{xb:Nat}{AW AL:Option Addr}{cW cL cnt:Nat}
theorem Ziz(h:Zar own w xb I mbs lbs mss lss AW cW AL cL cnt){A:Option Addr}{n c o:Nat}{u:Value}{mbs' lbs':List Nat}(hp:ZcE own w I mbs' lbs' mss' lss')(hA:∀g,(Value.slice A n c).ownBlock=some g->own g=1)(hgr:w.grownBy wa (Value.slice A n c).ownBlock) :
  ZcE (lab own w.heap.size 1) (wa.setCell ⟨xb,o,none⟩ u) I mbs' lbs' mss' lss':=by
 have hg2:=Zak (p:=⟨xb,o,none⟩) (World.grownBy.refl wa (some xb)) (.inl rfl) u;refine hp.move (YaH hgr.size hg2.size) (fun i hi e=>?_) (ZbV _ _ _);have h1:wa.heap[i]?=w.heap[i]?:=hgr.block i hi (fun e1=>by have:=hA i e1.symm;omega);have h2:=hg2.block i (YaK hi hgr.size) (fun e1=>by injection e1 with e1;subst e1;have:=h.ox;omega);exact h2.trans h1
theorem Zar.addW(h:Zar own w xb I mbs lbs mss lss AW cW AL cL cnt){mb:Nat}{A':Option Addr}{c':Nat}(hp:ZcE own w I (mbs++[mb]) lbs mss' lss)(hgr:w.grownBy wa (Value.slice AW mbs.length cW).ownBlock)(hO:wa.ownsRow 0 212 1 (.slice A' (mbs.length+1) c') (mbs.length+1) (mbs.map ifV++[ifV mb]))
  (hat:∀g,(Value.slice A' (mbs.length+1) c').ownBlock=some g->(Value.slice AW mbs.length cW).ownBlock=some g\/w.heap.size<g):Zar (lab own w.heap.size 1) (wa.setCell ⟨xb,0,none⟩ (.slice A' (mbs.length+1) c')) xb I (mbs++[mb]) lbs mss' lss A' c' AL cL cnt:=by
 have hg2:=Zak (p:=⟨xb,0,none⟩) (World.grownBy.refl wa (some xb)) (.inl rfl) (.slice A' (mbs.length+1) c');have hk:=h.blk.other h.wrow hgr (by decide);have hl:=h.lrow.kept hgr (Zbz h.lrow h.wrow (by decide));have e1:(mbs++[mb]).length=mbs.length+1:=by simp
 refine⟨?_,(ZbV _ _ _ xb h.blk.lt).trans h.ox,?_,hl.kept hg2 (.inr (Zab hl hk (by decide))),fun g hg=>?_,fun g hg=>?_,Ziz h hp (fun g hg=>h.ow g ((Zaf _ _ _).symm.trans hg)) hgr⟩
 ·rw[e1]
  simpa [ZgX] using hk.set_ 0 (.slice A' (mbs.length+1) c')
 ·rw[e1,List.map_append];exact hO.kept hg2 (.inr (Zab hO hk (by decide)))
 ·rcases hat g ((Zaf _ _ _).trans hg) with h1|h1
  ·have hlt:=(h.wrow.lt g h1).2;rw[ZbV _ _ _ g hlt];exact h.ow g ((Zaf _ _ _).symm.trans h1)
  ·exact Zfx _ _ _ (Nat.le_of_lt h1)
 ·rw[ZbV _ _ _ g (h.lrow.lt g ((Zaf _ _ _).trans hg)).2];exact h.ol g hg
theorem Zar.addK(h:Zar own w xb I mbs lbs mss lss AW cW AL cL cnt){lb:Nat}{A':Option Addr}{c':Nat}(hp:ZcE own w I mbs (lbs++[lb]) mss lss')(hgr:w.grownBy wa (Value.slice AL lbs.length cL).ownBlock)(hO:wa.ownsRow 0 126 1 (.slice A' (lbs.length+1) c') (lbs.length+1) (lbs.map ptV++[ptV lb]))
  (hat:∀g,(Value.slice A' (lbs.length+1) c').ownBlock=some g->(Value.slice AL lbs.length cL).ownBlock=some g\/w.heap.size<g):Zar (lab own w.heap.size 1) (wa.setCell ⟨xb,1,none⟩ (.slice A' (lbs.length+1) c')) xb I mbs (lbs++[lb]) mss lss' AW cW A' c' cnt:=by
 have hg2:=Zak (p:=⟨xb,1,none⟩) (World.grownBy.refl wa (some xb)) (.inl rfl) (.slice A' (lbs.length+1) c');have hk:=h.blk.other h.lrow hgr (by decide);have hl:=h.wrow.kept hgr (Zbz h.wrow h.lrow (by decide));have e1:(lbs++[lb]).length=lbs.length+1:=by simp
 refine⟨?_,(ZbV _ _ _ xb h.blk.lt).trans h.ox,hl.kept hg2 (.inr (Zab hl hk (by decide))),?_,fun g hg=>?_,fun g hg=>?_,Ziz h hp (fun g hg=>h.ol g ((Zaf _ _ _).symm.trans hg)) hgr⟩
 ·rw[e1]
  simpa [ZgX] using hk.set_ 1 (.slice A' (lbs.length+1) c')
 ·rw[e1,List.map_append];exact hO.kept hg2 (.inr (Zab hO hk (by decide)))
 ·rw[ZbV _ _ _ g (h.wrow.lt g ((Zaf _ _ _).trans hg)).2];exact h.ow g hg
 ·rcases hat g ((Zaf _ _ _).trans hg) with h1|h1
  ·have hlt:=(h.lrow.lt g h1).2;rw[ZbV _ _ _ g hlt];exact h.ol g ((Zaf _ _ _).symm.trans h1)
  ·exact Zfx _ _ _ (Nat.le_of_lt h1)
end
section
open Go.RowKit
theorem Zo2{w:World}{b cp:Nat}{S:Nat->Prop}(h:Blk w b 243 (Zf4 none 0 0 cp 0 0 0))(h1:1<=cp)(h2:cp<=1048576)(hS:S b):ZaP S w b cp 0 0 []:=
 ⟨none,0,0,0,[],hS,h,World.ownsRow_nil _ _ _ _,fun g hg=>by simp[Value.ownBlock] at hg,rfl,(Nat.zero_min _).symm,rfl,YaF _,Nat.zero_le _,by omega,h1,h2,fun j hj=>by omega⟩
def Ze4(I:InC)(k:Nat):List MS:=(List.range k).map (ZdD I)
def Ze5(k:Nat):List LS:=List.replicate k ⟨0,0,[]⟩
theorem ZmJ(I:InC)(k:Nat):Ze4 I (k+1)=Ze4 I k++[ZdD I k]:=by simp[Ze4,List.range_succ]
theorem ZmK(k:Nat):Ze5 (k+1)=Ze5 k++[⟨0,0,[]⟩]:=by simp[Ze5,List.replicate_succ']
def Zvc(B:Nat)(w:World)(xb:Nat)(I:InC)(mss:List MS)(lss:List LS)(cnt:Nat):Prop:=∃own mbs lbs AW cW AL cL,Zar own w xb I mbs lbs mss lss AW cW AL cL cnt/\mbs.length=I.c.wk.toNat/\lbs.length=I.c.wk.toNat/\(∀j,own j≠0->B<=j)
theorem ZnP{w:World}{base n k c:Nat}{A:Option Addr}{e:TypeId}{l:List Nat}{f:Nat->Value}{b:Nat}(h:w.ownsRow base e 1 (.slice A n c) n (l.map f))(hx:l[k]?=some b)(hk:k<n):∃g,A=some ⟨g,0,none⟩/\g<w.heap.size/\w.cell? ⟨g,k,none⟩=some (f b):=by
 have hr:=Rd.of_own h;obtain⟨g,o,e',hlt,hc⟩:=hr.2 (by omega);obtain⟨A',cap',hv,_,_,hg⟩:=ZaF h;injection hv with hA _ _
 obtain⟨g',hg1,_,_⟩:=hg (by omega);rw[hA,hg1] at e';injection e' with e'
 injection e' with e1 e2
 subst e1 e2;refine⟨g',by rw[hA,hg1],hlt,?_⟩;have:=hc k (f b) (by rw[YaR,hx];rfl)
 rwa [Nat.zero_add] at this
theorem Zer{own:Nat->Nat}{w:World}{xb:Nat}{I:InC}{mbs lbs:List Nat}{mss:List MS}{lss:List LS}{AW:Option Addr}{cW:Nat}{AL:Option Addr}{cL cnt:Nat}(h:Zar own w xb I mbs lbs mss lss AW cW AL cL cnt)(n x b li lo:Nat)(hn:mbs.length=n)(hl:lbs.length=n)(hx:x<n)(hn64:n<=64)(hb:mbs[x]?=some b)(hi:lbs[(x+n-1)%n]?=some li)(ho:lbs[x]?=some lo) :
  Calls prog 97 #[.pointer (some ⟨xb,0,none⟩),.int .i64 x] w fun e w'=>e=.returned (.tuple #[ifV b,ptV li,ptV lo,.bool true])/\Bz0 w w':=by
 have x0:=h.blk.cell 0;have x1:=h.blk.cell 1;have xl:=h.blk.lt;have hw:=h.wrow;have hr:=h.lrow;rw[hn] at hw x0;rw[hl] at hr x1;obtain⟨gw,rfl,lw,cw⟩:=ZnP hw hb hx;obtain⟨p,hp⟩:∃p,(x+n-1)%n=p:=⟨_,rfl⟩;have hpn:p<n:=by rw[<-hp];exact Nat.mod_lt _ (by omega)
 rw[hp] at hi;obtain⟨gl,rfl,lg,ci⟩:=ZnP hr hi hpn;obtain⟨gl',e',-,co⟩:=ZnP hr ho hx;injection e' with e'
 injection e' with e'
 subst e';have g1:decide ((x:Int)<0)=false:=YaI (by omega);have g2:decide ((n:Int)<=(x:Int))=false:=YaI (by omega);obtain⟨s,hs⟩:∃s,x+n=s:=⟨_,rfl⟩;obtain⟨s1,hs1⟩:∃s1,x+n-1=s1:=⟨_,rfl⟩;have w1:IntKind.i64.wrap ((x:Int)+(n:Int))=(s:Int):=by rw[show (x:Int)+(n:Int)=(s:Int) by omega];exact IntWalk.i64_in _ (by omega)
 have w2:IntKind.i64.wrap ((s:Int)-1)=(s1:Int):=by rw[show (s:Int)-1=(s1:Int) by omega];exact IntWalk.i64_in _ (by omega)
 rw[hs1] at hp;have hm:(s1:Int)%(n:Int)=(p:Int):=by rw[<-hp];exact(Int.natCast_emod s1 n).symm
 have HS:=hid hs;have HS1:=hid hs1;have HP:=hid hp;have i1:(0:Int)<=(x:Int):=by omega
 have i2:(x:Int)<(n:Int):=by omega
 have i3:(0:Int)<=(p:Int):=by omega
 have i4:(p:Int)<(n:Int):=by omega
 have nz:¬(n:Int)=0:=by omega
 clear h hw hr hn hl hb hi ho hs hs1 hp
 go_enter func97,ntmps97
 go_wp2_with fail;go_region;go_wp2_with fail;exact bodyPost_ret (v:=.tuple #[ifV b,ptV li,ptV lo,.bool true]) (by simp[results,results97,go_sem]) rfl ⟨rfl,(bR0 _ _).drew⟩
theorem ZnQ (b : Nat) (W : World) : (method 544 37 (.pointer (some ⟨b,0,none⟩)) "Do").run prog W = .ok (128,.pointer (some ⟨b,0,none⟩)) W := by kernel_rfl
theorem Zo3 (b : Nat) (W : World) : (method 544 37 (.pointer (some ⟨b,0,none⟩)) "Next").run prog W = .ok (127,.pointer (some ⟨b,0,none⟩)) W := by kernel_rfl
theorem Zf6 (b : Nat) (W : World) : (method 544 37 (.pointer (some ⟨b,0,none⟩)) "Trajectory").run prog W = .ok (56,.pointer (some ⟨b,0,none⟩)) W := by kernel_rfl
theorem Zar.setC{own:Nat->Nat}{w:World}{xb:Nat}{I:InC}{mbs lbs:List Nat}{mss:List MS}{lss:List LS}{AW:Option Addr}{cW:Nat}{AL:Option Addr}{cL cnt:Nat}(h:Zar own w xb I mbs lbs mss lss AW cW AL cL cnt)(c:Nat):Zar own (w.setCell ⟨xb,2,none⟩ (.int .i64 c)) xb I mbs lbs mss lss AW cW AL cL c/\But (fun i=>own i≠0) w (w.setCell ⟨xb,2,none⟩ (.int .i64 c)):=by
 have hg2:=Zak (p:=⟨xb,2,none⟩) (World.grownBy.refl w (some xb)) (.inl rfl) (.int .i64 c);refine⟨⟨by simpa [ZgX] using h.blk.set_ 2 (.int .i64 c),h.ox,h.wrow.kept hg2 (.inr (Zab h.wrow h.blk (by decide))),h.lrow.kept hg2 (.inr (Zab h.lrow h.blk (by decide))),h.ow,h.ol,h.parts.move hg2.size (fun i hi e=>hg2.block i hi (fun e1=>?_)) (fun _ _=>rfl)⟩,But.of_gr hg2 (by rw[h.ox];decide)⟩;injection e1 with e1
 subst e1;have:=h.ox;omega
structure Zxf(own own':Nat->Nat)(w w':World):Prop where
 old:∀i,i<w.heap.size->own' i=own i
 new:∀i,own' i≠0->own i≠0\/w.heap.size<=i
 but:But (fun i=>own i≠0) w w'
theorem ZcF{own:Nat->Nat}{w:World}{xb:Nat}{I:InC}{mbs lbs:List Nat}{mss mss':List MS}{lss lss':List LS}{AW:Option Addr}{cW:Nat}{AL:Option Addr}{cL cnt:Nat}(h:Zar own w xb I mbs lbs mss lss AW cW AL cL cnt)(n x b li lo:Nat)(hn:mbs.length=n)(hl:lbs.length=n)(hx:x<n)(hn64:n<=64)(hb:mbs[x]?=some b)(hi:lbs[(x+n-1)%n]?=some li)(ho:lbs[x]?=some lo)(hc:cnt<1000000000000)
  (hdo:∀W,Below w.heap.size w W->Calls prog 128 #[.pointer (some ⟨b,0,none⟩),.pointer (some ⟨li,0,none⟩),.pointer (some ⟨lo,0,none⟩)] W fun e w'=>e=.returned (.int .i64 0)/\∃own',Zar own' w' xb I mbs lbs mss' lss' AW cW AL cL cnt/\Zxf own own' W w') :
  Calls prog 71 #[.pointer (some ⟨xb,0,none⟩),.int .i64 x] w fun e w'=>e=.returned (.bool true)/\∃own',Zar own' w' xb I mbs lbs mss' lss' AW cW AL cL (cnt+1)/\(∀i,own' i≠0->own i≠0\/w.heap.size<=i)/\But (fun i=>own i≠0) w w':=by
 have HAT:=hid (Zer h n x b li lo hn hl hx hn64 hb hi ho);have HDO:=hid hdo;have hme:=ZnQ b;have HOX:=hid h.ox;have HC:=hid hc;clear h hdo hb hi ho
 go_enter func71,ntmps71
 go_wp2_with fail;((with_reducible refine HAT.out.mono ?_);rintro e w1 ⟨rfl,hb1⟩);have HB1:=hid hb1;clear hb1;go_wp2_with fail;((with_reducible refine(HDO.out w1 HB1.out).mono ?_);rintro e w2 ⟨rfl,own',hW2,hst2⟩);have c2:=hW2.blk.cell 2;have f2:=hW2.blk.frozen 2;have l2:=hW2.blk.lt;obtain⟨c,hc'⟩:∃c,cnt+1=c:=⟨_,rfl⟩;have hwc:IntKind.i64.wrap ((cnt:Int)+1)=(c:Int):=by rw[show (cnt:Int)+1=(c:Int) by omega];exact IntWalk.i64_in _ (by have:=HC.out;omega)
 have HW2:=hid hW2;have HS2:=hid hst2;have HCE:=hid hc';clear hW2 hst2 hc' hme hc;go_wp2_with fail;go_ret;have hfin:=HW2.out.setC c;rw[HCE.out];refine⟨rfl,own',hfin.1,fun i hi=>?_,?_⟩
 ·rcases HS2.out.new i hi with h1|h1
  ·exact .inl h1
  ·exact .inr (YaH HB1.out.size h1)
 ·refine ZgW (S:=fun i=>own i≠0) ((But.of_below _ HB1.out).trans HS2.out.but) hfin.2 (fun i hi h=>?_);rw[<-HS2.out.old i (YaK hi HB1.out.size)];exact h
end
section
open Go.RowKit
variable{own:Nat→Nat}{w:World}{xb:Nat}{I:InC}{mbs lbs:List Nat}{mss:List MS}{lss:List LS}{AW:Option Addr}{cW:Nat}{AL:Option Addr}{cL cnt:Nat}
theorem ZcE.setM(h:ZcE own w I mbs lbs mss lss){own':Nat->Nat}{w':World}{x b:Nat}{s':MS}(hb:mbs[x]?=some b)(hs:w.heap.size<=w'.heap.size)(hk:∀i,i<w.heap.size->2<=own i->own i≠2*x+2->w'.heap[i]?=w.heap[i]?)(hl:∀i,i<w.heap.size->own' i=own i)(hm:Zaz (fun j=>own' j=2*x+2) w' b (I.mc x) s') :
  ZcE own' w' I mbs lbs (mss.set x s') lss:=by
 refine⟨by rw[List.length_set];exact h.lm,h.ll,fun i b' s h1 h2=>?_,fun i b' l h1 h2=>?_⟩
 ·by_cases hix:i=x
  ·subst hix;rw[hb] at h1;injection h1 with h1
   subst h1;rw[List.getElem?_set_self (by rw[h.lm];exact(YaG.1 hb).1)] at h2;injection h2 with h2
   subst h2;exact hm
  ·rw[List.getElem?_set_ne (fun e=>hix e.symm)] at h2;exact((h.mach i b' s h1 h2).mono (T:=fun j=>own' j=2*i+2) (fun j hj e=>by rw[hl j hj];exact e)).step hs (fun j hj e=>hk j hj (by rw[<-hl j hj,e];omega) (by rw[<-hl j hj,e];omega))
 ·exact((h.link i b' l h1 h2).mono (T:=fun j=>own' j=2*i+3) (fun j hj e=>by rw[hl j hj];exact e)).step hs (fun j hj e=>hk j hj (by rw[<-hl j hj,e];omega) (by rw[<-hl j hj,e];omega))
theorem ZcE.setML(h:ZcE own w I mbs lbs mss lss){own':Nat->Nat}{w':World}{x y b lb:Nat}{s':MS}{l':LS}(hb:mbs[x]?=some b)(hlb:lbs[y]?=some lb)(hs:w.heap.size<=w'.heap.size)(hk:∀i,i<w.heap.size->2<=own i->own i≠2*x+2->own i≠2*y+3->w'.heap[i]?=w.heap[i]?)(hl:∀i,i<w.heap.size->own' i=own i)(hm:Zaz (fun j=>own' j=2*x+2) w' b (I.mc x) s')
  (hL:ZaP (fun j=>own' j=2*y+3) w' lb I.c.ca.toNat l'.s l'.r l'.q):ZcE own' w' I mbs lbs (mss.set x s') (lss.set y l'):=by
 refine⟨by rw[List.length_set];exact h.lm,by rw[List.length_set];exact h.ll,fun i b' s h1 h2=>?_,fun i b' l h1 h2=>?_⟩
 ·by_cases hix:i=x
  ·subst hix;rw[hb] at h1;injection h1 with h1
   subst h1;rw[List.getElem?_set_self (by rw[h.lm];exact(YaG.1 hb).1)] at h2;injection h2 with h2
   subst h2;exact hm
  ·rw[List.getElem?_set_ne (fun e=>hix e.symm)] at h2;exact((h.mach i b' s h1 h2).mono (T:=fun j=>own' j=2*i+2) (fun j hj e=>by rw[hl j hj];exact e)).step hs (fun j hj e=>hk j hj (by rw[<-hl j hj,e];omega) (by rw[<-hl j hj,e];omega) (by rw[<-hl j hj,e];omega))
 ·by_cases hiy:i=y
  ·subst hiy;rw[hlb] at h1;injection h1 with h1
   subst h1;rw[List.getElem?_set_self (by rw[h.ll];exact(YaG.1 hlb).1)] at h2;injection h2 with h2
   subst h2;exact hL
  ·rw[List.getElem?_set_ne (fun e=>hiy e.symm)] at h2;exact((h.link i b' l h1 h2).mono (T:=fun j=>own' j=2*i+3) (fun j hj e=>by rw[hl j hj];exact e)).step hs (fun j hj e=>hk j hj (by rw[<-hl j hj,e];omega) (by rw[<-hl j hj,e];omega) (by rw[<-hl j hj,e];omega))
theorem Zar.turn(h:Zar own w xb I mbs lbs mss lss AW cW AL cL cnt){own':Nat->Nat}{w':World}{mss':List MS}{lss':List LS}(hs:w.heap.size<=w'.heap.size)(hk:∀i,i<w.heap.size->own i=1->w'.heap[i]?=w.heap[i]?)(hl:∀i,i<w.heap.size->own' i=own i)(hp:ZcE own' w' I mbs lbs mss' lss'):Zar own' w' xb I mbs lbs mss' lss' AW cW AL cL cnt:=
 ⟨(hk xb h.blk.lt h.ox).trans h.blk,(hl xb h.blk.lt).trans h.ox,Hg.own (S:=fun i=>own i=1) h.wrow (fun g hg=>h.ow g ((Zaf _ _ _).symm.trans hg)) w' hs hk,Hg.own (S:=fun i=>own i=1) h.lrow (fun g hg=>h.ol g ((Zaf _ _ _).symm.trans hg)) w' hs hk,
  fun g hg=>(hl g (h.wrow.lt g ((Zaf _ _ _).trans hg)).2).trans (h.ow g hg),fun g hg=>(hl g (h.lrow.lt g ((Zaf _ _ _).trans hg)).2).trans (h.ol g hg),hp⟩
def ZmL(own:Nat->Nat)(w:World)(xb:Nat)(I:InC)(mbs lbs:List Nat)(mss:List MS)(lss:List LS)(AW:Option Addr)(cW:Nat)(AL:Option Addr)(cL cnt:Nat)(e:Ending)(w':World):Prop:=
 e=.returned (.bool true)/\∃own',Zar own' w' xb I mbs lbs mss lss AW cW AL cL (cnt+1)/\(∀i,own' i≠0->own i≠0\/w.heap.size<=i)/\But (fun i=>own i≠0) w w'
theorem Zjz(h:Zar own w xb I mbs lbs mss lss AW cW AL cL cnt)(hO:I.Ok)(n x:Nat)(s:MS)(it:ZaH)(hn:mbs.length=n)(hl:lbs.length=n)(hx:x<n)(hn64:n<=64)(hxw:(x:Int)<I.c.wk)(hc:cnt<1000000000000)(hs:mss[x]?=some s)(hi:s.its[s.nx]?=some it)(hk:it.1.1=1\/it.1.1=2\/it.1.1=5\/it.1.1=6)(hit:ZfT (I.mc x) it)(hsm:s.Small) :
  Calls prog 71 #[.pointer (some ⟨xb,0,none⟩),.int .i64 x] w (ZmL own w xb I mbs lbs (mss.set x (ZaS (I.mc x) (Za1 (I.mc x) s it) it.1.2.1)) lss AW cW AL cL cnt):=by
 obtain⟨b,hb⟩:∃b,mbs[x]?=some b:=⟨_,YaA (by omega)⟩;obtain⟨li,hli⟩:∃b,lbs[(x+n-1)%n]?=some b:=⟨_,YaA (by rw[hl];exact Nat.mod_lt _ (by omega))⟩;obtain⟨lo,hlo⟩:∃b,lbs[x]?=some b:=⟨_,YaA (by omega)⟩;refine ZcF h n x b li lo hn hl hx hn64 hb hli hlo hc (fun W hW=>?_);have hWW:=h.below (own':=own) hW (fun _ _=>rfl);refine(Zo1 (fun j=>own j=2*x+2) b (I.mc x) s it _ _ W (hO.mc hxw) (hWW.parts.mach x b s hb hs) hi hk hit hsm).mono ?_;rintro e w' ⟨rfl,hm,hbu⟩;refine⟨rfl,lab own W.heap.size (2*x+2),hWW.turn hbu.size (fun i hi e=>hbu.block i hi (fun e2=>by omega)) (ZbV _ _ _) (hWW.parts.setM hb hbu.size (fun i hi _ hne=>hbu.block i hi hne) (ZbV _ _ _) (hm.mono (fun i hi hS=>?_))),ZbV _ _ _,fun i hi=>?_,hbu.mono (fun i _ e=>by omega)⟩
 ·rcases hS with hS|hS
  ·by_cases hiW:i<W.heap.size
   ·rw[ZbV _ _ _ i hiW];exact hS
   ·exact Zfx _ _ _ (by omega)
  ·exact Zfx _ _ _ hS
 ·unfold lab at hi
  split at hi
  ·exact .inl hi
  ·exact .inr (by omega)
def Ztp(own:Nat->Nat)(n m k l:Nat):Nat->Nat:=fun j=>if j<n then own j else if j<m then k else l
theorem ZbX(own:Nat->Nat)(n m k l:Nat):∀i,i<n->Ztp own n m k l i=own i:=fun i hi=>if_pos hi
theorem Ztq(own:Nat->Nat){n m k l i:Nat}(h1:n<=i)(h2:i<m):Ztp own n m k l i=k:=by unfold Ztp;rw[if_neg (by omega),if_pos h2]
theorem ZnR(own:Nat->Nat){n m k l i:Nat}(h1:n<=i)(h2:m<=i):Ztp own n m k l i=l:=by unfold Ztp;rw[if_neg (by omega),if_neg (by omega)]
theorem ZhM(h:Zar own w xb I mbs lbs mss lss AW cW AL cL cnt)(hO:I.Ok)(n x:Nat)(s:MS)(l:LS)(it:ZaH)(hn:mbs.length=n)(hl:lbs.length=n)(hx:x<n)(hn64:n<=64)(hxw:(x:Int)<I.c.wk)(hc:cnt<1000000000000)(hs:mss[x]?=some s)(hls:lss[x]?=some l)(hi:s.its[s.nx]?=some it)(hk:it.1.1=3)(hit:ZfT (I.mc x) it)(hsm:s.Small)(hroom:l.s-l.r<I.c.ca.toNat)(hs9:l.s<1000000000) :
  Calls prog 71 #[.pointer (some ⟨xb,0,none⟩),.int .i64 x] w (ZmL own w xb I mbs lbs (mss.set x (ZaS (I.mc x) s it.1.2.1)) (lss.set x ⟨l.s+1,l.r,l.q++[(it.2.2.1,pcL s.G it.2.2.2.1.toNat (it.2.2.2.2-it.2.2.2.1).toNat)]⟩) AW cW AL cL cnt):=by
 obtain⟨b,hb⟩:∃b,mbs[x]?=some b:=⟨_,YaA (by omega)⟩;obtain⟨li,hli⟩:∃b,lbs[(x+n-1)%n]?=some b:=⟨_,YaA (by rw[hl];exact Nat.mod_lt _ (by omega))⟩;obtain⟨lo,hlo⟩:∃b,lbs[x]?=some b:=⟨_,YaA (by omega)⟩;refine ZcF h n x b li lo hn hl hx hn64 hb hli hlo hc (fun W hW=>?_);have hWW:=h.below (own':=own) hW (fun _ _=>rfl);refine(ZmH (fun j=>own j=2*x+2/\j<W.heap.size) (fun j=>own j=2*x+3/\j<W.heap.size) b (I.mc x) s it _ lo I.c.ca.toNat l.s l.r l.q W (hO.mc hxw) ((hWW.parts.mach x b s hb hs).mono (fun i hi h=>⟨h,hi⟩)) ((hWW.parts.link x lo l hlo hls).mono (fun i hi h=>⟨h,hi⟩)) (fun i _ h1 h2=>by have:=h1.1;have:=h2.1;omega) hroom hs9 hi hk hit hsm).mono ?_;rintro e w' ⟨rfl,B,hB,hm,hL,hbu⟩;refine⟨rfl,Ztp own W.heap.size B (2*x+3) (2*x+2),hWW.turn hbu.size (fun i hi e=>hbu.block i hi (fun e2=>by rcases e2 with e2|e2<;>have:=e2.1<;>omega)) (ZbX _ _ _ _ _) (hWW.parts.setML hb hlo hbu.size (fun i hi _ h1 h2=>hbu.block i hi (fun e2=>by rcases e2 with e2|e2<;>have:=e2.1<;>omega)) (ZbX _ _ _ _ _) (hm.mono (fun i hi hS=>?_)) (hL.mono (fun i hi hT=>?_))),ZbX _ _ _ _ _,fun i hi=>?_,hbu.mono (fun i _ e=>by rcases e with e|e<;>have:=e.1<;>omega)⟩
 ·rcases hS with hS|hS
  ·rw[ZbX _ _ _ _ _ i hS.2];exact hS.1
  ·exact ZnR _ (by omega) hS
 ·rcases hT with hT|hT
  ·rw[ZbX _ _ _ _ _ i hT.2];exact hT.1
  ·exact Ztq _ hT.1 hT.2
 ·unfold Ztp at hi
  split at hi
  ·exact .inl hi
  ·exact .inr (by omega)
theorem ZhN(h:Zar own w xb I mbs lbs mss lss AW cW AL cL cnt)(hO:I.Ok)(n x y:Nat)(s:MS)(l:LS)(it:ZaH)(vs:List Int)(q:List (Zfh×List Int))(hn:mbs.length=n)(hl:lbs.length=n)(hx:x<n)(hn64:n<=64)(hxw:(x:Int)<I.c.wk)(hc:cnt<1000000000000)(hs:mss[x]?=some s)(hy:(x+n-1)%n=y)(hls:lss[y]?=some l)(hi:s.its[s.nx]?=some it)(hk:it.1.1=4)(hit:ZfT (I.mc x) it)(hsm:s.Small)(hq:l.q=(it.2.2.1,vs)::q)(hv:vs.length=(it.2.2.2.2-it.2.2.2.1).toNat) :
  Calls prog 71 #[.pointer (some ⟨xb,0,none⟩),.int .i64 x] w (ZmL own w xb I mbs lbs (mss.set x (ZaS (I.mc x) { s with G:=ZdF it.2.1.2 s.G it.2.2.2.1.toNat (it.2.2.2.2-it.2.2.2.1).toNat vs } it.1.2.1)) (lss.set y ⟨l.s,l.r+1,q⟩) AW cW AL cL cnt):=by
 obtain⟨b,hb⟩:∃b,mbs[x]?=some b:=⟨_,YaA (by omega)⟩;obtain⟨li,hli⟩:∃b,lbs[(x+n-1)%n]?=some b:=⟨_,YaA (by rw[hl];exact Nat.mod_lt _ (by omega))⟩;obtain⟨lo,hlo⟩:∃b,lbs[x]?=some b:=⟨_,YaA (by omega)⟩;refine ZcF h n x b li lo hn hl hx hn64 hb hli hlo hc (fun W hW=>?_);rw[hy] at hli;have hWW:=h.below (own':=own) hW (fun _ _=>rfl);have hL0:=hWW.parts.link y li l hli hls;rw[hq] at hL0;refine(ZmI (fun j=>own j=2*x+2/\j<W.heap.size) (fun j=>own j=2*y+3/\j<W.heap.size) b (I.mc x) s it _ li I.c.ca.toNat l.s l.r vs q W (hO.mc hxw) ((hWW.parts.mach x b s hb hs).mono (fun i hi h=>⟨h,hi⟩)) (hL0.mono (fun i hi h=>⟨h,hi⟩)) (fun i _ h1 h2=>by have:=h1.1;have:=h2.1;omega) hi hk hit hsm hv).mono ?_;rintro e w' ⟨rfl,B,hB,hm,hL,hbu⟩;refine⟨rfl,Ztp own W.heap.size B 0 (2*x+2),hWW.turn hbu.size (fun i hi e=>hbu.block i hi (fun e2=>by rcases e2 with e2|e2<;>have:=e2.1<;>omega)) (ZbX _ _ _ _ _) (hWW.parts.setML hb hli hbu.size (fun i hi _ h1 h2=>hbu.block i hi (fun e2=>by rcases e2 with e2|e2<;>have:=e2.1<;>omega)) (ZbX _ _ _ _ _) (hm.mono (fun i hi hS=>?_)) (hL.mono (fun i hi hT=>?_))),ZbX _ _ _ _ _,fun i hi=>?_,hbu.mono (fun i _ e=>by rcases e with e|e<;>have:=e.1<;>omega)⟩
 ·rcases hS with hS|hS
  ·rw[ZbX _ _ _ _ _ i hS.2];exact hS.1
  ·exact ZnR _ (by omega) hS
 ·rw[ZbX _ _ _ _ _ i hT.2];exact hT.1
 ·unfold Ztp at hi
  split at hi
  ·exact .inl hi
  ·exact .inr (by omega)
end
structure Rg(S V:Type) where
 n:Nat
 N:Nat
 kd:Nat->Nat->Nat
 loc:Nat->Nat->S->S
 msg:Nat->Nat->S->V
 rcv:Nat->Nat->V->S->S
 s0:Nat->S
section
variable{S V:Type}(R:Rg S V)
def Rg.pv(x:Nat):Nat:=(x+R.n-1)%R.n
def Rg.sc(x:Nat):Nat:=(x+1)%R.n
structure Rg.Ok:Prop where
 n1:1<=R.n
 one:R.n=1->∀x i,R.kd x i≠2
 pair:∀x i,x<R.n->(R.kd x i=2↔R.kd (R.sc x) (i+1)=3)
 zero:∀x,R.kd x 0≠3
 sep:∀x y i,R.kd x i=2->R.kd y (i+1)≠2
def Rg.sy:Nat->Nat->S
 |0,x=>R.s0 x
 |p+1,x=>if R.kd x p=1 then R.loc x p (Rg.sy p x) else if R.kd x p=3 then R.rcv x p (R.msg (R.pv x) (p-1) (Rg.sy p (R.pv x))) (Rg.sy p x) else Rg.sy p x
def Rg.sn(x a:Nat):Nat->List Nat
 |0=>[]
 |p+1=>if R.kd x p=2/\a<=p+1 then Rg.sn x a p++[p] else Rg.sn x a p
end
section
variable{S V:Type}(R:Rg S V)
variable{R}
theorem Rg.sc_lt(h:R.Ok)(x:Nat):R.sc x<R.n:=Nat.mod_lt _ h.n1
theorem Rg.pv_lt(h:R.Ok)(x:Nat):R.pv x<R.n:=Nat.mod_lt _ h.n1
theorem Rg.sc_val(h:R.Ok){x:Nat}(hx:x<R.n):(x+1<R.n/\R.sc x=x+1)\/(x+1=R.n/\R.sc x=0):=by
 unfold Rg.sc
 by_cases e:x+1=R.n
 ·right;rw[e,Nat.mod_self];exact⟨rfl,rfl⟩
 ·left;exact⟨by omega,Nat.mod_eq_of_lt (by omega)⟩
theorem Rg.pv_val(h:R.Ok){x:Nat}(hx:x<R.n):(1<=x/\R.pv x=x-1)\/(x=0/\R.pv x=R.n-1):=by
 unfold Rg.pv
 by_cases e:x=0
 ·right;subst e;exact⟨rfl,by rw[Nat.zero_add];exact Nat.mod_eq_of_lt (by have:=h.n1;omega)⟩
 ·left;refine⟨by omega,?_⟩
  rw[show x+R.n-1=(x-1)+R.n by omega,Nat.add_mod_right,Nat.mod_eq_of_lt (by omega)]
theorem Rg.sc_pv(h:R.Ok){x:Nat}(hx:x<R.n):R.sc (R.pv x)=x:=by
 have h1:=Rg.pv_val h hx;have h2:=Rg.sc_val h (Rg.pv_lt h x);omega
theorem Rg.pv_sc(h:R.Ok){x:Nat}(hx:x<R.n):R.pv (R.sc x)=x:=by
 have h1:=Rg.sc_val h hx;have h2:=Rg.pv_val h (Rg.sc_lt h x);omega
theorem Rg.sc_ne(h:R.Ok){x:Nat}(hx:x<R.n)(h2:2<=R.n):R.sc x≠x:=by
 have h1:=Rg.sc_val h hx;omega
theorem Rg.sn_mem{x a:Nat}:∀{p i:Nat},i∈R.sn x a p↔i<p/\R.kd x i=2/\a<=i+1
 |0,i=>by simp[Rg.sn]
 |p+1,i=>by
  rw[Rg.sn]
  split
  ·rename_i hc
   rw[List.mem_append,Rg.sn_mem,List.mem_singleton]
   constructor
   ·rintro(⟨h1,h2⟩|rfl)
    ·exact⟨by omega,h2⟩
    ·exact⟨by omega,hc⟩
   ·rintro⟨h1,h2⟩
    by_cases e:i=p
    ·exact .inr e
    ·exact .inl ⟨by omega,h2⟩
  ·rename_i hc
   rw[Rg.sn_mem]
   constructor
   ·rintro⟨h1,h2⟩;exact⟨by omega,h2⟩
   ·rintro⟨h1,h2⟩
    by_cases e:i=p
    ·subst e;exact absurd h2 hc
    ·exact⟨by omega,h2⟩
theorem Rg.sn_still{x a:Nat}{p p':Nat}(hp:p<=p')(hk:∀i,p<=i->i<p'->R.kd x i≠2):R.sn x a p'=R.sn x a p:=by
 induction p' with
 |zero=>rw[show p=0 by omega]
 |succ p' ih=>
  by_cases e:p=p'+1
  ·rw[e]
  ·rw[Rg.sn,if_neg (fun hc=>hk p' (by omega) (by omega) hc.1)];exact ih (by omega) (fun i h1 h2=>hk i h1 (by omega))
theorem Rg.sn_congr{x a b:Nat}{p:Nat}(hk:∀i,i<p->R.kd x i=2->(a<=i+1↔b<=i+1)):R.sn x a p=R.sn x b p:=by
 induction p with
 |zero=>rfl
 |succ p ih=>
  rw[Rg.sn,Rg.sn,ih (fun i h1=>hk i (by omega))]
  by_cases e:R.kd x p=2
  ·have:=hk p (by omega) e
   by_cases e1:a<=p+1
   ·rw[if_pos ⟨e,e1⟩,if_pos ⟨e,this.1 e1⟩]
   ·rw[if_neg (fun hc=>e1 hc.2),if_neg (fun hc=>e1 (this.2 hc.2))]
  ·rw[if_neg (fun hc=>e hc.1),if_neg (fun hc=>e hc.1)]
theorem Rg.sn_none{x a:Nat}{p:Nat}(hp:p<a):R.sn x a p=[]:=by
 induction p with
 |zero=>rfl
 |succ p ih=>rw[Rg.sn,if_neg (fun hc=>by omega)];exact ih (by omega)
theorem Rg.sn_head{x a b:Nat}(hk:R.kd x a=2)(hab:a+1<b)(hn:∀i,R.kd x i=2->a<i->b<=i+1):∀p,a<p->R.sn x (a+1) p=a::R.sn x b p
 |0,h=>by omega
 |p+1,h=>by
  by_cases e:a=p
  ·subst e;rw[Rg.sn,if_pos ⟨hk,YaF _⟩,Rg.sn,if_neg (fun hc=>by omega),Rg.sn_none (by omega),Rg.sn_none (by omega)];rfl
  ·rw[Rg.sn,Rg.sn,Rg.sn_head hk hab hn p (by omega)]
   by_cases e1:R.kd x p=2
   ·rw[if_pos ⟨e1,by omega⟩,if_pos ⟨e1,hn p e1 (by omega)⟩];rfl
   ·rw[if_neg (fun hc=>e1 hc.1),if_neg (fun hc=>e1 hc.1)]
theorem Rg.sy_still{x p p':Nat}(hp:p<=p')(hk:∀i,p<=i->i<p'->R.kd x i=0):R.sy p' x=R.sy p x:=by
 induction p' with
 |zero=>rw[show p=0 by omega]
 |succ p' ih=>
  by_cases e:p=p'+1
  ·rw[e]
  ·have:=hk p' (by omega) (by omega);rw[Rg.sy,if_neg (by omega),if_neg (by omega)];exact ih (by omega) (fun i h1 h2=>hk i h1 (by omega))
theorem Rg.sy_snd{x i:Nat}(hk:R.kd x i=2):R.sy (i+1) x=R.sy i x:=by rw[Rg.sy,if_neg (by omega),if_neg (by omega)]
def Rg.upd{T:Type}(f:Nat->T)(x:Nat)(v:T):Nat->T:=fun y=>if y=x then v else f y
theorem Rg.upd_same{T:Type}(f:Nat->T)(x:Nat)(v:T):Rg.upd f x v x=v:=if_pos rfl
theorem Rg.upd_ne{T:Type}(f:Nat->T){x y:Nat}(v:T)(h:y≠x):Rg.upd f x v y=f y:=if_neg h
def Rg.ms(R:Rg S V)(x:Nat)(l:List Nat):List V:=l.map (fun p=>R.msg x p (R.sy p x))
structure Rg.Inv(R:Rg S V)(pos:Nat->Nat):Prop where
 le:∀x,x<R.n->pos x<=R.N
 at_:∀x,x<R.n->pos x<R.N->R.kd x (pos x)≠0
 sent:∀x i,x<R.n->R.kd x i=2->i+1<pos (R.sc x)->i<pos x
structure Rg.Nx(R:Rg S V)(x p p':Nat):Prop where
 lt:p<p'
 le:p'<=R.N
 at_:p'<R.N->R.kd x p'≠0
 no:∀i,p<i->i<p'->R.kd x i=0
theorem Rg.nx_ex(R:Rg S V)(x p:Nat)(hp:p<R.N):∃p',R.Nx x p p':=by
 have:∀k p,p+k=R.N->1<=k->∃p',R.Nx x p p':=by
  intro k
  induction k with
  |zero=>intro p _ h;omega
  |succ k ih=>
   intro p h1 _
   by_cases e:k=0
   ·exact⟨p+1,by omega,by omega,fun h=>by omega,fun i h2 h3=>by omega⟩
   ·by_cases e1:R.kd x (p+1)=0
    ·obtain⟨p',h2⟩:=ih (p+1) (by omega) (by omega);refine⟨p',by have:=h2.lt;omega,h2.le,h2.at_,fun i h3 h4=>?_⟩
     by_cases e2:i=p+1
     ·rw[e2];exact e1
     ·exact h2.no i (by omega) h4
    ·exact⟨p+1,by omega,by omega,fun _=>e1,fun i h2 h3=>by omega⟩
 exact this (R.N-p) p (by omega) (by omega)
end
section
variable{S V:Type}(R:Rg S V)
variable{R}
variable{pos:Nat→Nat}{x p':Nat}
theorem Rg.Inv.step(h:R.Ok)(hi:R.Inv pos)(hx:x<R.n)(hn:R.Nx x (pos x) p')(hr:R.kd x (pos x)=3->pos x-1<pos (R.pv x)):R.Inv (Rg.upd pos x p'):=by
 refine⟨fun y hy=>?_,fun y hy hl=>?_,fun y i hy hk hl=>?_⟩
 ·by_cases e:y=x
  ·rw[e,Rg.upd_same];exact hn.le
  ·rw[Rg.upd_ne _ _ e];exact hi.le y hy
 ·by_cases e:y=x
  ·rw[e,Rg.upd_same] at hl ⊢;exact hn.at_ hl
  ·rw[Rg.upd_ne _ _ e] at hl ⊢;exact hi.at_ y hy hl
 ·have hy2:i<pos y:=by
   by_cases e:R.sc y=x
   ·rw[e,Rg.upd_same] at hl
    by_cases e1:i+1<pos x
    ·exact hi.sent y i hy hk (by rw[e];exact e1)
    ·have h3:R.kd x (i+1)=3:=by rw[<-e];exact(h.pair y i hy).1 hk
     by_cases e2:i+1=pos x
     ·have h4:=hr (by rw[<-e2];exact h3);rw[<-e,Rg.pv_sc h hy,e,<-e2] at h4;exact h4
     ·have:=hn.no (i+1) (by omega) hl;omega
   ·rw[Rg.upd_ne _ _ e] at hl;exact hi.sent y i hy hk hl
  by_cases e:y=x
  ·rw[e,Rg.upd_same];rw[e] at hy2;exact Nat.lt_trans hy2 hn.lt
  ·rw[Rg.upd_ne _ _ e];exact hy2
theorem Rg.two(h:R.Ok){x i:Nat}(hk:R.kd x i=2):2<=R.n:=by
 have:=h.n1
 by_cases e:R.n=1
 ·exact absurd hk (h.one e x i)
 ·omega
theorem Rg.sn_other(h:R.Ok)(hx:x<R.n)(hn:R.Nx x (pos x) p'){y:Nat}(hy:y<R.n)(h2:y=x->R.kd x (pos x)≠2)(h3:R.sc y=x->R.kd x (pos x)≠3):R.sn y (Rg.upd pos x p' (R.sc y)) (Rg.upd pos x p' y)=R.sn y (pos (R.sc y)) (pos y):=by
 have hA:R.sn y (Rg.upd pos x p' (R.sc y)) (Rg.upd pos x p' y)=R.sn y (Rg.upd pos x p' (R.sc y)) (pos y):=by
  by_cases e:y=x
  ·subst e;rw[Rg.upd_same];refine Rg.sn_still (Nat.le_of_lt hn.lt) (fun i h4 h5=>?_)
   by_cases e1:i=pos y
   ·rw[e1];exact h2 rfl
   ·rw[hn.no i (by omega) h5];decide
  ·rw[Rg.upd_ne _ _ e]
 rw[hA]
 by_cases e:R.sc y=x
 ·rw[e,Rg.upd_same];refine Rg.sn_congr (fun i _ hk=>?_);have h4:R.kd x (i+1)=3:=by rw[<-e];exact(h.pair y i hy).1 hk
  constructor
  ·intro h5;have:=hn.lt;omega
  ·intro h5
   by_cases e1:p'<=i+1
   ·exact e1
   ·by_cases e2:i+1=pos x
    ·exact absurd (e2▸h4) (h3 e)
    ·have:=hn.no (i+1) (by omega) (by omega);omega
 ·rw[Rg.upd_ne _ _ e]
theorem Rg.sn_send(h:R.Ok)(hi:R.Inv pos)(hx:x<R.n)(hn:R.Nx x (pos x) p')(hk:R.kd x (pos x)=2):R.sn x (Rg.upd pos x p' (R.sc x)) (Rg.upd pos x p' x)=R.sn x (pos (R.sc x)) (pos x)++[pos x]:=by
 have hc:pos (R.sc x)<=pos x+1:=by
  by_cases e:pos (R.sc x)<=pos x+1
  ·exact e
  ·have:=hi.sent x (pos x) hx hk (by omega);omega
 rw[Rg.upd_same,Rg.upd_ne _ _ (Rg.sc_ne h hx (Rg.two h hk)),Rg.sn_still (p:=pos x+1) hn.lt (fun i h1 h2=>by rw[hn.no i (by omega) h2];decide),Rg.sn,if_pos ⟨hk,hc⟩]
theorem Rg.sn_recv(h:R.Ok)(hx:x<R.n)(hn:R.Nx x (pos x) p')(hk:R.kd x (pos x)=3)(hs:pos x-1<pos (R.pv x)):R.sn (R.pv x) (pos x) (pos (R.pv x))=(pos x-1)::R.sn (R.pv x) (Rg.upd pos x p' x) (Rg.upd pos x p' (R.pv x)):=by
 have h0:1<=pos x:=by
  by_cases e:pos x=0
  ·rw[e] at hk;exact absurd hk (h.zero x)
  ·omega
 have hs2:R.kd (R.pv x) (pos x-1)=2:=(h.pair _ _ (Rg.pv_lt h x)).2 (by rw[Rg.sc_pv h hx,Nat.sub_add_cancel h0];exact hk);have h2:=Rg.two h hs2;have hne:R.pv x≠x:=fun e=>Rg.sc_ne h hx h2 (by rw[<-e] at hx ⊢;rw[Rg.sc_pv h (e▸hx)];exact e.symm)
 rw[Rg.upd_same,Rg.upd_ne _ _ hne];have:=Rg.sn_head (R:=R) (x:=R.pv x) (a:=pos x-1) (b:=p') hs2 (by have:=hn.lt;omega) (fun i h3 h4=>by
  have h5:R.kd x (i+1)=3:=by
   have:=(h.pair _ i (Rg.pv_lt h x)).1 h3
   rwa [Rg.sc_pv h hx] at this
  by_cases e1:p'<=i+1
  ·exact e1
  ·have:=hn.no (i+1) (by omega) (by omega)
   omega) (pos (R.pv x)) hs
 rwa [Nat.sub_add_cancel h0] at this
theorem Rg.sy_loc(hn:R.Nx x (pos x) p')(hk:R.kd x (pos x)=1):R.sy p' x=R.loc x (pos x) (R.sy (pos x) x):=by
 rw[Rg.sy_still (p:=pos x+1) hn.lt (fun i h1 h2=>hn.no i (by omega) h2),Rg.sy,if_pos hk]
theorem Rg.sy_send(hn:R.Nx x (pos x) p')(hk:R.kd x (pos x)=2):R.sy p' x=R.sy (pos x) x:=by
 rw[Rg.sy_still (p:=pos x+1) hn.lt (fun i h1 h2=>hn.no i (by omega) h2),Rg.sy,if_neg (by omega),if_neg (by omega)]
theorem Rg.sy_recv(h:R.Ok)(hx:x<R.n)(hn:R.Nx x (pos x) p')(hk:R.kd x (pos x)=3):R.sy p' x=R.rcv x (pos x) (R.msg (R.pv x) (pos x-1) (R.sy (pos x-1) (R.pv x))) (R.sy (pos x) x):=by
 have h0:1<=pos x:=by
  by_cases e:pos x=0
  ·rw[e] at hk;exact absurd hk (h.zero x)
  ·omega
 have hs2:R.kd (R.pv x) (pos x-1)=2:=(h.pair _ _ (Rg.pv_lt h x)).2 (by rw[Rg.sc_pv h hx,Nat.sub_add_cancel h0];exact hk);have h3:R.sy (pos x) (R.pv x)=R.sy (pos x-1) (R.pv x):=by
  have:=Rg.sy_snd hs2
  rwa [Nat.sub_add_cancel h0] at this
 rw[Rg.sy_still (p:=pos x+1) hn.lt (fun i h1 h2=>hn.no i (by omega) h2),Rg.sy,if_neg (by omega),if_pos hk,h3]
end
section
variable{S V:Type}(R:Rg S V)
variable{R}
def Rg.Can(R:Rg S V)(pos:Nat->Nat)(y:Nat):Prop:=y<R.n/\pos y<R.N/\(R.kd y (pos y)=2->R.sn y (pos (R.sc y)) (pos y)=[])/\(R.kd y (pos y)=3->pos y-1<pos (R.pv y))
theorem Rg.least(pos:Nat->Nat)(n:Nat)(hn:1<=n):∃y,y<n/\∀z,z<n->pos y<=pos z:=by
 induction n with
 |zero=>omega
 |succ n ih=>
  by_cases e:n=0
  ·exact⟨0,by omega,fun z hz=>by rw[show z=0 by omega];exact YaF _⟩
  ·obtain⟨y,h1,h2⟩:=ih (by omega)
   by_cases e1:pos y<=pos n
   ·refine⟨y,by omega,fun z hz=>?_⟩
    by_cases e2:z=n
    ·rw[e2];exact e1
    ·exact h2 z (by omega)
   ·refine⟨n,by omega,fun z hz=>?_⟩
    by_cases e2:z=n
    ·rw[e2];exact YaF _
    ·have:=h2 z (by omega);omega
theorem Rg.lives(h:R.Ok)(pos:Nat->Nat){x:Nat}(hx:x<R.n)(hl:pos x<R.N):∃y,R.Can pos y:=by
 obtain⟨y,h1,h2⟩:=Rg.least pos R.n h.n1;refine⟨y,h1,Nat.lt_of_le_of_lt (h2 x hx) hl,fun hk=>?_,fun hk=>?_⟩
 ·apply List.eq_nil_iff_forall_not_mem.2
  intro i hm;obtain⟨h3,h4,h5⟩:=Rg.sn_mem.1 hm;have h6:=h2 _ (Rg.sc_lt h y);have h7:pos y=i+1:=by omega
  rw[h7] at hk;exact h.sep y y i h4 hk
 ·have h3:=h2 _ (Rg.pv_lt h y);have h0:1<=pos y:=by
   by_cases e:pos y=0
   ·rw[e] at hk;exact absurd hk (h.zero y)
   ·omega
  omega
end
theorem Ze6{α β γ:Type}(g:β->Option γ)(f:α->List β):∀l:List α,(l.flatMap f).filterMap g=l.flatMap (fun x=>(f x).filterMap g)
 |[]=>rfl
 |x::l=>by rw[List.flatMap_cons,List.filterMap_append,Ze6 g f l,List.flatMap_cons]
theorem Zrh{α β γ:Type}(g:β->Option γ)(f:α->β)(h:α->γ)(e:∀a,g (f a)=some (h a)):∀l:List α,(l.map f).filterMap g=l.map h
 |[]=>rfl
 |a::l=>by rw[List.map_cons,YaO,e a,Zrh g f h e l];rfl
theorem Zcg{α β:Type}(f g:α->List β):∀l:List α,(∀x∈l,f x=g x)->l.flatMap f=l.flatMap g
 |[],_=>rfl
 |x::l,h=>by rw[List.flatMap_cons,List.flatMap_cons,h x (by simp),Zcg f g l (fun y hy=>h y (by simp[hy]))]
theorem ZnS{α β γ:Type}(g:β->γ)(f:α->List β):∀l:List α,(l.flatMap f).map g=l.flatMap (fun x=>(f x).map g)
 |[]=>rfl
 |x::l=>by rw[List.flatMap_cons,List.map_append,ZnS g f l,List.flatMap_cons]
theorem Zri(s b p r:Int)(xs ys:List (Int×Int))(i:Nat)(h:max xs.length ys.length<=i):ZpL s b p r xs ys i=[]:=by
 unfold ZpL;rw[YaN (by omega),YaN (by omega)];rfl
theorem Zrj(s b p r:Int)(xs ys:List (Int×Int))(k:Nat)(h:max xs.length ys.length<=k):Zhn s b p r xs ys k=Zc7 s b p r xs ys:=by
 induction k with
 |zero=>unfold Zc7;rw[show max xs.length ys.length=0 by omega]
 |succ k ih=>
  by_cases e:max xs.length ys.length=k+1
  ·unfold Zc7;rw[e]
  ·rw[ZcI,ih (by omega),Zri _ _ _ _ _ _ _ (by omega),List.append_nil]
abbrev Sl4:=Nat×Nat×Nat×Nat
def PlC.ph(c:PlC)(k:Nat):Int:=((k/(c.m-1):Nat):Int)
def PlC.rd(c:PlC)(k:Nat):Int:=((k%(c.m-1):Nat):Int)
def PlC.sq(c:PlC)(w k:Nat):Nat:=(((w:Int)-c.rd k+c.ph k)%(c.m:Int)).toNat
def PlC.rq(c:PlC)(w k:Nat):Nat:=(((w:Int)-c.rd k+c.ph k-1)%(c.m:Int)).toNat
def PlC.chk(c:PlC)(j q:Nat):List (Int×Int):=match c.bks[j]? with
 |some y=>chS y.1 y.2 c.m c.ch q
 |none=>[]
def PlC.itS(c:PlC)(w:Nat)(t:Int)(s:Sl4):Option ZaH:=
 if s.1=3 then ((c.chk s.2.2.1 (c.sq w s.2.1))[s.2.2.2]?).map fun x=>ZhE t ((true,false),(t,(s.2.2.1:Int),c.ph s.2.1,c.rd s.2.1,(s.2.2.2:Int)),x)
 else if s.1=4 then ((c.chk s.2.2.1 (c.rq w s.2.1))[s.2.2.2]?).map fun x=>ZhE t ((false,decide (c.ph s.2.1=0)),(t,(s.2.2.1:Int),c.ph s.2.1,c.rd s.2.1,(s.2.2.2:Int)),x)
 else some (Zb4 s.1 t (s.2.2.1:Int))
def Zk5(k j B:Nat):List Sl4:=(List.range B).flatMap fun b=>[(3,k,j,b),(4,k,j,b)]
def Zsi(lo n B k:Nat):List Sl4:=(List.range n).flatMap fun i=>Zk5 k (lo+i) B
def PlC.grpS(c:PlC)(B:Nat)(g:Int×Int):List Sl4:=
 (List.range (g.2-g.1).toNat).map (fun i=>(2,0,g.1.toNat+i,0))++(List.range (2*(c.m-1))).flatMap (Zsi g.1.toNat (g.2-g.1).toNat B)++(List.range (g.2-g.1).toNat).map (fun i=>(5,0,g.1.toNat+i,0))
def PlC.stepS(c:PlC)(B:Nat):List Sl4:=(List.range c.mi).map (fun a=>(1,0,a,0))++c.grps.flatMap (c.grpS B)++[(6,0,0,0)]
section
variable{c:PlC}
theorem PlC.q_lt(h:c.Ok)(w k:Nat):c.sq w k<c.m/\c.rq w k<c.m:=by
 have hm:=h.m1;have z1:=Int.emod_nonneg ((w:Int)-c.rd k+c.ph k) (b:=(c.m:Int)) (by omega);have z2:=Int.emod_lt_of_pos ((w:Int)-c.rd k+c.ph k) (b:=(c.m:Int)) (by omega);have z3:=Int.emod_nonneg ((w:Int)-c.rd k+c.ph k-1) (b:=(c.m:Int)) (by omega);have z4:=Int.emod_lt_of_pos ((w:Int)-c.rd k+c.ph k-1) (b:=(c.m:Int)) (by omega);unfold PlC.sq PlC.rq;omega
theorem Zrk(h:c.Ok)(j q:Nat)(hq:q<c.m):(c.chk j q).length<=60:=by
 unfold PlC.chk
 split
 ·rename_i y hy
  obtain⟨h0,h1,h2⟩:=PlC.bks_in hy;have hp:=h.p2;obtain⟨a1,a2,a3⟩:=ZcA y.1 y.2 c.m q h1 (by omega);rw[chS,Zd7];have:=Zci ((Zdb y.1 y.2 c.m q).2-(Zdb y.1 y.2 c.m q).1).toNat c.ch.toNat;omega
 ·exact Nat.zero_le _
theorem Zrl(h:c.Ok)(w:Nat)(hw:w<c.m)(t:Int)(k j:Nat)(hk:k<2*(c.m-1)):c.jobI w t j (c.ph k) (c.rd k)=(Zk5 k j 60).filterMap (c.itS w t):=by
 have hm:=h.m1;have hl:=PlC.q_lt h w k;have b1:=Zrk h j (c.sq w k) hl.1;have b2:=Zrk h j (c.rq w k) hl.2;have hM:0<c.m-1:=by omega
 have h1:k/(c.m-1)<2:=Nat.div_lt_of_lt_mul (by rw[Nat.mul_comm];exact hk);have h2:k%(c.m-1)<c.m-1:=Nat.mod_lt _ hM;have hph:c.ph k=0\/c.ph k=1:=by
  unfold PlC.ph;generalize k/(c.m-1)=z at h1 ⊢;omega
 have hrd:0<=c.rd k/\c.rd k<(c.m:Int)-1:=by
  unfold PlC.rd;generalize k%(c.m-1)=z at h2 ⊢;omega
 unfold PlC.jobI Zk5;rw[Ze6];unfold PlC.chk at b1 b2
 cases hb:c.bks[j]? with
 |none=>
  have:∀b:Nat,([(3,k,j,b),(4,k,j,b)]:List Sl4).filterMap (c.itS w t)=[]:=fun b=>by
   simp[PlC.itS,PlC.chk,hb]
  rw[Zcg _ (fun _=>[]) _ (fun b _=>this b)];simp
 |some y=>
  rw[hb] at b1 b2;dsimp only at b1 b2 ⊢;unfold rY ZcM;rw[if_pos ⟨by omega,by omega,hph,hrd.1,hrd.2⟩];rw[<-Zrj _ _ _ _ _ _ 60 (by unfold PlC.sq at b1;unfold PlC.rq at b2;omega)];unfold Zhn;rw[ZnS];refine Zcg _ _ _ (fun b _=>?_);simp only[ZpL,PlC.itS,PlC.chk,hb,YaO,YaP,List.map_append,PlC.sq,PlC.rq]
  cases (chS y.1 y.2 c.m c.ch (((w:Int)-c.rd k+c.ph k)%(c.m:Int)).toNat)[b]?<;>cases (chS y.1 y.2 c.m c.ch (((w:Int)-c.rd k+c.ph k-1)%(c.m:Int)).toNat)[b]?<;>simp
theorem Zes(w:Nat)(t:Int)(kd lo:Nat)(h3:kd≠3)(h4:kd≠4)(n:Nat):ZaE kd t lo n=((List.range n).map (fun i=>((kd,0,lo+i,0):Sl4))).filterMap (c.itS w t):=by
 unfold ZaE;rw[Zrh (c.itS w t) (fun i=>((kd,0,lo+i,0):Sl4)) (fun i=>Zb4 kd t ((lo+i:Nat):Int)) (fun i=>by unfold PlC.itS;rw[if_neg h3,if_neg h4])]
theorem ZmM(h:c.Ok)(w:Nat)(hw:w<c.m)(t:Int)(g:Int×Int):c.groupG w t g=(c.grpS 60 g).filterMap (c.itS w t):=by
 unfold PlC.groupG PlC.groupI PlC.grpS;rw[List.filterMap_append,List.filterMap_append];have e2:=Zes (c:=c) w t 2 g.1.toNat (by decide) (by decide) (g.2-g.1).toNat;have e5:=Zes (c:=c) w t 5 g.1.toNat (by decide) (by decide) (g.2-g.1).toNat;rw[<-e2,<-e5,Ze6]
 congr 2
 unfold PlC.rndI;refine Zcg _ _ _ (fun k hk=>?_);unfold PlC.jobsI Zsi;rw[Ze6];exact Zcg _ _ _ (fun i _=>Zrl h w hw t k _ (List.mem_range.1 hk))
theorem ZgY(h:c.Ok)(w:Nat)(hw:w<c.m)(t:Int):c.itemsI w t=(c.stepS 60).filterMap (c.itS w t):=by
 unfold PlC.itemsI PlC.stepS PlC.grpsI;rw[List.filterMap_append,List.filterMap_append,YaX (by rw[PlC.grps_length];exact YaF _),Ze6];have e1:=Zes (c:=c) w t 1 0 (by decide) (by decide) c.mi;simp only[Nat.zero_add] at e1;rw[<-e1]
 congr 1
 ·congr 1
  exact Zcg _ _ _ (fun g _=>ZmM h w hw t g)
end
def Adj(l:List Sl4):Prop:=(∀q k j b,l[q]?=some (3,k,j,b)->l[q+1]?=some (4,k,j,b))/\(∀q k j b,l[q]?=some (4,k,j,b)->∃q',q=q'+1/\l[q']?=some (3,k,j,b))
theorem Adj.plain{l:List Sl4}(h:∀s∈l,s.1≠3/\s.1≠4):Adj l:=⟨fun q k j b e=>absurd rfl (h _ (YaL e)).1,fun q k j b e=>absurd rfl (h _ (YaL e)).2⟩
theorem Adj.pair(k j b:Nat):Adj [(3,k,j,b),(4,k,j,b)]:=by
 constructor
 ·intro q k' j' b' e
  match q with
  |0=>simp at e ⊢;exact e
  |1=>simp at e
  |q+2=>simp at e
 ·intro q k' j' b' e
  match q with
  |0=>simp at e
  |1=>simp at e;exact⟨0,rfl,by simp;exact e⟩
  |q+2=>simp at e
theorem ZbH{α:Type}{l:List α}{q:Nat}{x:α}(h:l[q]?=some x):q<l.length:=by
 rcases Nat.lt_or_ge q l.length with h'|h'
 ·exact h'
 ·rw[YaN h'] at h;cases h
theorem Adj.app{l1 l2:List Sl4}(h1:Adj l1)(h2:Adj l2):Adj (l1++l2):=by
 constructor
 ·intro q k j b e
  by_cases hq:q<l1.length
  ·rw[YaV hq] at e;have:=h1.1 q k j b e
   rwa [YaV (ZbH this)]
  ·rw[YaU (by omega)] at e;have:=h2.1 _ k j b e
   rwa [YaU (by omega),show q+1-l1.length=q-l1.length+1 by omega]
 ·intro q k j b e
  by_cases hq:q<l1.length
  ·rw[YaV hq] at e;obtain⟨q',e1,e2⟩:=h1.2 q k j b e;exact⟨q',e1,by rw[YaV (ZbH e2)];exact e2⟩
  ·rw[YaU (by omega)] at e;obtain⟨q',e1,e2⟩:=h2.2 _ k j b e;exact⟨q'+l1.length,by omega,by rw[YaU (by omega),Nat.add_sub_cancel];exact e2⟩
theorem Adj.nil:Adj []:=Adj.plain (fun s h=>by cases h)
theorem Adj.flat{α:Type}(f:α->List Sl4)(h:∀a,Adj (f a)):∀l:List α,Adj (l.flatMap f)
 |[]=>Adj.nil
 |a::l=>by rw[List.flatMap_cons];exact(h a).app (Adj.flat f h l)
theorem Ztr(k j B:Nat):Adj (Zk5 k j B):=Adj.flat _ (fun b=>Adj.pair k j b) _
theorem ZgZ(kd lo:Nat)(h3:kd≠3)(h4:kd≠4)(n:Nat):Adj ((List.range n).map (fun i=>((kd,0,lo+i,0):Sl4))):=Adj.plain (fun s hs=>by
 obtain⟨i,_,rfl⟩:=List.mem_map.1 hs;exact⟨h3,h4⟩)
theorem Ze7(c:PlC)(B:Nat):Adj (c.stepS B):=by
 unfold PlC.stepS;refine Adj.app (Adj.app ?_ (Adj.flat _ (fun g=>?_) _)) (Adj.plain (fun s hs=>by rw[List.mem_singleton.1 hs];exact⟨by decide,by decide⟩))
 ·have:=ZgZ 1 0 (by decide) (by decide) c.mi
  simpa only[Nat.zero_add] using this
 ·unfold PlC.grpS;exact Adj.app (Adj.app (ZgZ 2 _ (by decide) (by decide) _) (Adj.flat _ (fun k=>Adj.flat _ (fun i=>Ztr _ _ _) _) _)) (ZgZ 5 _ (by decide) (by decide) _)
theorem Zo4(c:PlC)(B:Nat){s:Sl4}(hs:s∈c.stepS B)(h:s.1=3\/s.1=4):s.2.1<2*(c.m-1):=by
 unfold PlC.stepS PlC.grpS Zsi Zk5 at hs;simp only[List.mem_append,List.mem_map,List.mem_flatMap,List.mem_range,List.mem_singleton,List.mem_cons,List.not_mem_nil,or_false] at hs
 rcases hs with(⟨a,_,rfl⟩|⟨g,_,(⟨i,_,rfl⟩|⟨k,hk,i,_,b,_,rfl|rfl⟩)|⟨i,_,rfl⟩⟩)|rfl
 ·exact absurd h (by simp)
 ·exact absurd h (by simp)
 ·exact hk
 ·exact hk
 ·exact absurd h (by simp)
 ·exact absurd h (by decide)
def PlC.kdS(c:PlC)(x:Nat)(s:Sl4):Nat:=
 if s.1=3 then (if s.2.2.2<(c.chk s.2.2.1 (c.sq x s.2.1)).length then 2 else 0) else if s.1=4 then (if s.2.2.2<(c.chk s.2.2.1 (c.rq x s.2.1)).length then 3 else 0) else 1
def PlC.kdN(c:PlC)(B x i:Nat):Nat:=match (c.stepS B)[i%(c.stepS B).length]? with
 |some s=>c.kdS x s
 |none=>0
theorem Zts(c:PlC)(hm:1<=c.m)(x k:Nat):c.rq ((x+1)%c.m) k=c.sq x k:=by
 unfold PlC.rq PlC.sq
 congr 1
 rw[Int.natCast_emod,Int.natCast_add];have h1:∀a b:Int,(a%(c.m:Int)+b)%(c.m:Int)=(a+b)%(c.m:Int):=fun a b=>Int.emod_add_emod a c.m b
 have:=h1 ((x:Int)+((1:Nat):Int)) (- c.rd k+c.ph k-1);rw[show (x:Int)+((1:Nat):Int)+(- c.rd k+c.ph k-1)=(x:Int)-c.rd k+c.ph k by omega] at this;rw[<-this]
 congr 1
 omega
theorem Zk6(c:PlC)(B:Nat):1<=(c.stepS B).length:=by unfold PlC.stepS;simp only[YaS,List.length_singleton];omega
theorem Zo5(c:PlC)(B:Nat):(c.stepS B)[(c.stepS B).length-1]?=some (6,0,0,0):=by
 unfold PlC.stepS;rw[YaS,List.length_singleton,Nat.add_sub_cancel,YaU (YaF _),Nat.sub_self];rfl
theorem Zg0{c:PlC}(h:c.Ok)(B:Nat):(c.stepS B)[0]?=some (1,0,0,0):=by
 have h1:=h.i1;unfold PlC.stepS;rw[YaY,YaV (by simp;omega),YaR,List.getElem?_range (by omega)];rfl
theorem ZjA{i L:Nat}(h:i%L+1<L):(i+1)%L=i%L+1/\(i+1)/L=i/L:=by
 have h1:=Nat.div_add_mod i L;have h2:i+1=(i%L+1)+L*(i/L):=by omega
 rw[h2];exact⟨by rw[Nat.add_mul_mod_self_left,Nat.mod_eq_of_lt h],by rw[Nat.add_mul_div_left _ _ (by omega),Nat.div_eq_of_lt h,Nat.zero_add]⟩
theorem ZjB{c:PlC}{B x i:Nat}(h:c.kdN B x i=2):∃k j b,(c.stepS B)[i%(c.stepS B).length]?=some (3,k,j,b)/\b<(c.chk j (c.sq x k)).length:=by
 unfold PlC.kdN at h
 split at h
 ·rename_i s hs
  obtain⟨kd,k,j,b⟩:=s;unfold PlC.kdS at h;dsimp only at h
  split at h
  ·rename_i e
   subst e
   split at h
   ·rename_i hb
    exact⟨k,j,b,hs,hb⟩
   ·cases h
  ·split at h
   ·split at h<;>cases h
   ·cases h
 ·cases h
theorem Zk7{c:PlC}{B x i:Nat}(h:c.kdN B x i=3):∃k j b,(c.stepS B)[i%(c.stepS B).length]?=some (4,k,j,b)/\b<(c.chk j (c.rq x k)).length:=by
 unfold PlC.kdN at h
 split at h
 ·rename_i s hs
  obtain⟨kd,k,j,b⟩:=s;unfold PlC.kdS at h;dsimp only at h
  split at h
  ·split at h<;>cases h
  ·split at h
   ·rename_i e
    subst e
    split at h
    ·rename_i hb
     exact⟨k,j,b,hs,hb⟩
    ·cases h
   ·cases h
 ·cases h
theorem Ztt{c:PlC}(h:c.Ok)(B x i:Nat):c.kdN B x i=2↔c.kdN B ((x+1)%c.m) (i+1)=3:=by
 constructor
 ·intro h2;obtain⟨k,j,b,hs,hb⟩:=ZjB h2;have h3:=(Ze7 c B).1 _ k j b hs;have h4:=ZbH h3;unfold PlC.kdN;rw[(ZjA h4).1,h3];dsimp only;unfold PlC.kdS;dsimp only;rw[if_neg (by decide),if_pos rfl,Zts c h.m1,if_pos hb]
 ·intro h2;obtain⟨k,j,b,hs,hb⟩:=Zk7 h2;obtain⟨q',e1,e2⟩:=(Ze7 c B).2 _ k j b hs;have h4:=ZbH hs;have hL:=Zk6 c B;have h5:i%(c.stepS B).length=q':=by
   by_cases e:i%(c.stepS B).length+1<(c.stepS B).length
   ·have:=(ZjA e).1;omega
   ·have h6:=Nat.mod_lt i hL;have h7:i%(c.stepS B).length+1=(c.stepS B).length:=by omega
    have h8:=Nat.div_add_mod i (c.stepS B).length;have h9:i+1=(c.stepS B).length*(i/(c.stepS B).length+1):=by rw[Nat.mul_add,Nat.mul_one];omega
    rw[h9,Nat.mul_mod_right] at e1;omega
  unfold PlC.kdN;rw[h5,e2];dsimp only;unfold PlC.kdS;dsimp only;rw[if_pos rfl,<-Zts c h.m1,if_pos hb]
theorem ZnT{c:PlC}(h:c.Ok)(B x:Nat):c.kdN B x 0=1:=by
 unfold PlC.kdN;rw[Nat.zero_mod,Zg0 h B];rfl
theorem Zvd{c:PlC}(B x y i:Nat)(h:c.kdN B x i=2):c.kdN B y (i+1)≠2:=by
 obtain⟨k,j,b,hs,hb⟩:=ZjB h;have h3:=(Ze7 c B).1 _ k j b hs;have h4:=ZbH h3;intro h2;obtain⟨k',j',b',hs',-⟩:=ZjB h2;rw[(ZjA h4).1,h3] at hs'
 cases hs'
theorem Zve{c:PlC}(hm:c.m=1)(B x i:Nat):c.kdN B x i≠2:=by
 intro h;obtain⟨k,j,b,hs,-⟩:=ZjB h;have:=Zo4 c B (YaL hs) (.inl rfl);dsimp only at this;omega
section
open Go.RowKit
def ZjC(s:MS):Bool:=decide (s.its.length<=s.nx)
def Zet(mss:List MS):Bool:=mss.all ZjC
theorem ZiA{mss:List MS}{n:Nat}(hl:mss.length=n)(h:∀j s,j<n->mss[j]?=some s->ZjC s=true):Zet mss=true:=by
 unfold Zet;rw[List.all_eq_true];intro s hs;obtain⟨j,hj⟩:=List.getElem?_of_mem hs;exact h j s (by rw[<-hl];exact(YaG.1 hj).1) hj
theorem ZmN{mss:List MS}{j:Nat}{s:MS}(h:mss[j]?=some s)(hs:ZjC s=false):Zet mss=false:=by
 cases hd:Zet mss with
 |false=>rfl
 |true=>
  unfold Zet at hd;rw[List.all_eq_true] at hd;have:=hd s (YaL h);rw[hs] at this
  cases this
theorem ZbI{own:Nat->Nat}{w:World}{xb:Nat}{I:InC}{mbs lbs:List Nat}{mss:List MS}{lss:List LS}{AW:Option Addr}{cW:Nat}{AL:Option Addr}{cL cnt:Nat}(h:Zar own w xb I mbs lbs mss lss AW cW AL cL cnt)(n:Nat)(hn:mbs.length=n)(hn64:n<=64) :
  Calls prog 33 #[.pointer (some ⟨xb,0,none⟩)] w fun e w'=>e=.returned (.bool (Zet mss))/\Bz0 w w':=by
 have HW:=hid h;have HN:=hid hn;have x0:=h.blk.cell 0;have xl:=h.blk.lt;have hw:=h.wrow;rw[hn] at hw x0;have HR:=hid hw;clear h hn hw
 go_enter func33,ntmps33
 go_wp2_with fail;clear x0 xl
 go_loopw [14] (fun v wr=>∃i:Nat,i<=n/\v=.int .i64 i/\Hid (∀j s,j<i->mss[j]?=some s->ZjC s=true)/\Bz0 w wr) (fun v _=>n-(intOf v).toNat)
 case atStart=>exact⟨0,by omega,rfl,hid (fun j s h=>by omega),bR0 _ _⟩
 case round=>
  obtain⟨i,hi,rfl,hd,hb⟩:=hrel
  by_cases hlt:i<n
  ·obtain⟨b,hmb⟩:∃b,mbs[i]?=some b:=⟨_,YaA (by rw[HN.out];exact hlt)⟩;obtain⟨s,hs⟩:∃s,mss[i]?=some s:=⟨_,YaA (by rw[HW.out.parts.lm,HN.out];exact hlt)⟩;obtain⟨g,rfl,lg,cg⟩:=ZnP (Zac HR.out hb) hmb hlt;obtain⟨F,a,hM,-,-⟩:=(HW.out.below (own':=own) hb (fun _ _=>rfl)).parts.mach i b s hmb hs;have hme:=Zo3 b;have HM:=hid hM;have HS:=hid hs;have HB:=hid hb;have r1:(0:Int)<=(i:Int):=by omega
   have r2:(i:Int)<(n:Int):=by omega
   clear hM hs hmb hb
   by_cases hdn:s.its.length<=s.nx
   ·have HC:=hid (Ze3 F b (I.mc i) s a wr HM.out hdn);have HD:Hid (ZjC s=true):=hid (YaJ hdn);clear hdn;go_wp2_with fail;((with_reducible refine HC.out.mono ?_);rintro e w1 ⟨rfl,hb1⟩);have HB1:=hid (bT0 HB.out hb1);clear hb1;go_wp2_with fail
    go_roundw
    case rel=>
     refine⟨i+1,by omega,by go_num,hid (fun j s' hj hs'=>?_),HB1.out.alloc HB1.out.size _⟩
     by_cases hji:j<i
     ·exact hd.out j s' hji hs'
     ·obtain rfl:j=i:=by omega
      rw[HS.out] at hs';injection hs' with hs'
      rw[<-hs'];exact HD.out
    case measure=>simp[intOf];omega
   ·obtain⟨⟨⟨k1,t,u⟩,⟨⟨sd,ad⟩,⟨j1,j2,j3,j4,j5⟩,⟨j6,j7⟩⟩⟩,hx⟩:∃x,s.its[s.nx]?=some x:=⟨_,YaA (by omega)⟩;have HC:=hid (Ze2 F b (I.mc i) s a k1 t u sd ad j1 j2 j3 j4 j5 j6 j7 wr HM.out hx);have HD:Hid (ZjC s=false):=hid (YaI hdn);clear hdn hx;go_wp2_with fail;((with_reducible refine HC.out.mono ?_);rintro e w1 ⟨rfl,hb1⟩);have HB1:=hid (bT0 HB.out hb1);clear hb1;go_wp2_with fail;go_ret;exact⟨by rw[ZmN HS.out HD.out];rfl,HB1.out.alloc HB1.out.size _⟩
  ·obtain rfl:i=n:=by omega
   have HB:=hid hb;clear hb;go_wp2_with fail;go_ret;exact⟨by rw[ZiA (by rw[HW.out.parts.lm];exact HN.out) hd.out];rfl,HB.out⟩
end
