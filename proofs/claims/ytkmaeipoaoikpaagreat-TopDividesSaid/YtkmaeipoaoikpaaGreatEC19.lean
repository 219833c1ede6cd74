/- Lemmas. -/
import Derived.Test.YtkmaeipoaoikpaaGreatEC18
namespace Go.Proofs.YtkmaeipoaoikpaaGreat
set_option linter.all false
set_option maxRecDepth 100000
set_option maxHeartbeats 4000000
open Lib (hid)
open Tryz
section
open Go.RowKit
structure LS where
 s:Nat
 r:Nat
 q:List (Zfo×List Int)
abbrev Zg5(AW:Option Addr)(n cW:Nat)(AL:Option Addr)(k cL cnt:Nat):Array Value:=#[.slice AW n cW,.slice AL k cL,.int .i64 cnt]
abbrev ifV(b:Nat):Value:=.iface 37 (.pointer (some ⟨b,0,none⟩))
abbrev ptV(b:Nat):Value:=.pointer (some ⟨b,0,none⟩)
theorem Zyj:Sl prog 122 212 .nilIface 1 16:=⟨underlying122,by kernel_rfl,rfl,by omega⟩
theorem Zyk:Sl prog 123 126 (.pointer none) 1 8:=⟨underlying123,by kernel_rfl,rfl,by omega⟩
structure ZcH(own:Nat->Nat)(w:World)(I:InC)(mbs lbs:List Nat)(mss:List MS)(lss:List LS):Prop where
 lm:mss.length=mbs.length
 ll:lss.length=lbs.length
 mach:∀(i b:Nat) (s:MS),mbs[i]?=some b->mss[i]?=some s->Zaz (fun j=>own j=2*i+2) w b (I.mc i) s
 link:∀(i b:Nat) (l:LS),lbs[i]?=some b->lss[i]?=some l->ZaP (fun j=>own j=2*i+3) w b I.c.ca.toNat l.s l.r l.q
end
section
open Go.RowKit
variable{own own':Nat→Nat}{w w':World}{I:InC}{mbs lbs:List Nat}{mss:List MS}{lss:List LS}
theorem ZcH.move(h:ZcH own w I mbs lbs mss lss)(hs:w.heap.size<=w'.heap.size)(hb:∀i,i<w.heap.size->2<=own i->w'.heap[i]?=w.heap[i]?)(hl:∀i,i<w.heap.size->own' i=own i):ZcH own' w' I mbs lbs mss lss:=
 ⟨h.lm,h.ll,fun i b s h1 h2=>((h.mach i b s h1 h2).mono (T:=fun j=>own' j=2*i+2) (fun j hj e=>by rw[hl j hj];exact e)).step hs (fun j hj e=>hb j hj (by rw[<-hl j hj,e];omega)),
  fun i b l h1 h2=>((h.link i b l h1 h2).mono (T:=fun j=>own' j=2*i+3) (fun j hj e=>by rw[hl j hj];exact e)).step hs (fun j hj e=>hb j hj (by rw[<-hl j hj,e];omega))⟩
theorem ZcH.addM(h:ZcH own w I mbs lbs mss lss){b:Nat}{s:MS}{k:Nat}(hk:mbs.length=k)(hm:Zaz (fun j=>own j=2*k+2) w b (I.mc k) s):ZcH own w I (mbs++[b]) lbs (mss++[s]) lss:=by
 refine⟨by simp[h.lm],h.ll,fun i b' s' h1 h2=>?_,h.link⟩
 by_cases hi:i<mbs.length
 ·rw[YaV hi] at h1;rw[YaV (by rw[h.lm];exact hi)] at h2;exact h.mach i b' s' h1 h2
 ·have hi2:i<(mbs++[b]).length:=(YaG.1 h1).1;obtain rfl:i=k:=by simp at hi2;omega
  rw[YaU (by omega),hk,Nat.sub_self] at h1;rw[YaU (by rw[h.lm];omega),h.lm,hk,Nat.sub_self] at h2;simp at h1 h2;subst h1 h2;exact hm
theorem ZcH.addL(h:ZcH own w I mbs lbs mss lss){b:Nat}{l:LS}{k:Nat}(hk:lbs.length=k)(hm:ZaP (fun j=>own j=2*k+3) w b I.c.ca.toNat l.s l.r l.q):ZcH own w I mbs (lbs++[b]) mss (lss++[l]):=by
 refine⟨h.lm,by simp[h.ll],h.mach,fun i b' s' h1 h2=>?_⟩
 by_cases hi:i<lbs.length
 ·rw[YaV hi] at h1;rw[YaV (by rw[h.ll];exact hi)] at h2;exact h.link i b' s' h1 h2
 ·have hi2:i<(lbs++[b]).length:=(YaG.1 h1).1;obtain rfl:i=k:=by simp at hi2;omega
  rw[YaU (by omega),hk,Nat.sub_self] at h1;rw[YaU (by rw[h.ll];omega),h.ll,hk,Nat.sub_self] at h2;simp at h1 h2;subst h1 h2;exact hm
structure Zao(own:Nat->Nat)(w:World)(xb:Nat)(I:InC)(mbs lbs:List Nat)(mss:List MS)(lss:List LS)(AW:Option Addr)(cW:Nat)(AL:Option Addr)(cL cnt:Nat):Prop where
 blk:Blk w xb 125 (Zg5 AW mbs.length cW AL lbs.length cL cnt)
 ox:own xb=1
 wrow:w.ownsRow 0 212 1 (.slice AW mbs.length cW) mbs.length (mbs.map ifV)
 lrow:w.ownsRow 0 126 1 (.slice AL lbs.length cL) lbs.length (lbs.map ptV)
 ow:∀g,ZaY AW=some g->own g=1
 ol:∀g,ZaY AL=some g->own g=1
 parts:ZcH own w I mbs lbs mss lss
theorem Zao.step{xb:Nat}{AW AL:Option Addr}{cW cL cnt:Nat}(h:Zao own w xb I mbs lbs mss lss AW cW AL cL cnt)(hs:w.heap.size<=w'.heap.size)(hb:∀i,i<w.heap.size->1<=own i->w'.heap[i]?=w.heap[i]?)(hl:∀i,i<w.heap.size->own' i=own i):Zao own' w' xb I mbs lbs mss lss AW cW AL cL cnt:=
 ⟨(hb xb h.blk.lt (by rw[h.ox];exact YaF _)).trans h.blk,(hl xb h.blk.lt).trans h.ox,Hg.own (S:=fun i=>own i=1) h.wrow (fun g hg=>h.ow g ((Zaf _ _ _).symm.trans hg)) w' hs (fun i hi e=>hb i hi (by omega)),
  Hg.own (S:=fun i=>own i=1) h.lrow (fun g hg=>h.ol g ((Zaf _ _ _).symm.trans hg)) w' hs (fun i hi e=>hb i hi (by omega)),fun g hg=>(hl g (h.wrow.lt g ((Zaf _ _ _).trans hg)).2).trans (h.ow g hg),fun g hg=>(hl g (h.lrow.lt g ((Zaf _ _ _).trans hg)).2).trans (h.ol g hg),h.parts.move hs (fun i hi e=>hb i hi (by omega)) hl⟩
theorem Zao.below{xb:Nat}{AW AL:Option Addr}{cW cL cnt:Nat}(h:Zao own w xb I mbs lbs mss lss AW cW AL cL cnt)(hb:Below w.heap.size w w')(hl:∀i,i<w.heap.size->own' i=own i):Zao own' w' xb I mbs lbs mss lss AW cW AL cL cnt:=h.step hb.size (fun i hi _=>hb.block i hi) hl
end
section
open Go.RowKit
def lab(own:Nat->Nat)(n k:Nat):Nat->Nat:=fun j=>if j<n then own j else k
theorem ZbX(own:Nat->Nat)(n k:Nat):∀i,i<n->lab own n k i=own i:=fun i hi=>if_pos hi
theorem ZfF(own:Nat->Nat)(n k:Nat){i:Nat}(hi:n<=i):lab own n k i=k:=if_neg (by omega)
theorem ZjC{own:Nat->Nat}{n k B:Nat}(h:∀j,own j≠0->B<=j)(hB:B<=n):∀j,lab own n k j≠0->B<=j:=by
 intro j hj;unfold lab at hj
 split at hj
 ·exact h j hj
 ·omega
end
section
open Go.RowKit
variable{own:Nat→Nat}{w wa:World}{I:InC}{mbs lbs:List Nat}{mss mss':List MS}{lss lss':List LS}{xb:Nat}{AW AL:Option Addr}{cW cL cnt:Nat}
theorem ZiD(h:Zao own w xb I mbs lbs mss lss AW cW AL cL cnt){A:Option Addr}{n c o:Nat}{u:Value}{mbs' lbs':List Nat}(hp:ZcH own w I mbs' lbs' mss' lss')(hA:∀g,(Value.slice A n c).ownBlock=some g->own g=1)(hgr:w.grownBy wa (Value.slice A n c).ownBlock) :
  ZcH (lab own w.heap.size 1) (wa.setCell ⟨xb,o,none⟩ u) I mbs' lbs' mss' lss':=by
 have hg2:=Zak (p:=⟨xb,o,none⟩) (World.grownBy.refl wa (some xb)) (.inl rfl) u;refine hp.move (YaH hgr.size hg2.size) (fun i hi e=>?_) (ZbX _ _ _);have h1:wa.heap[i]?=w.heap[i]?:=hgr.block i hi (fun e1=>by have:=hA i e1.symm;omega);have h2:=hg2.block i (YaK hi hgr.size) (fun e1=>by injection e1 with e1;subst e1;have:=h.ox;omega);exact h2.trans h1
theorem Zao.addW(h:Zao own w xb I mbs lbs mss lss AW cW AL cL cnt){mb:Nat}{A':Option Addr}{c':Nat}(hp:ZcH own w I (mbs++[mb]) lbs mss' lss)(hgr:w.grownBy wa (Value.slice AW mbs.length cW).ownBlock)(hO:wa.ownsRow 0 212 1 (.slice A' (mbs.length+1) c') (mbs.length+1) (mbs.map ifV++[ifV mb]))
  (hat:∀g,(Value.slice A' (mbs.length+1) c').ownBlock=some g->(Value.slice AW mbs.length cW).ownBlock=some g\/w.heap.size<g):Zao (lab own w.heap.size 1) (wa.setCell ⟨xb,0,none⟩ (.slice A' (mbs.length+1) c')) xb I (mbs++[mb]) lbs mss' lss A' c' AL cL cnt:=by
 have hg2:=Zak (p:=⟨xb,0,none⟩) (World.grownBy.refl wa (some xb)) (.inl rfl) (.slice A' (mbs.length+1) c');have hk:=h.blk.other h.wrow hgr (by decide);have hl:=h.lrow.kept hgr (ZbB h.lrow h.wrow (by decide));have e1:(mbs++[mb]).length=mbs.length+1:=by simp
 refine⟨?_,(ZbX _ _ _ xb h.blk.lt).trans h.ox,?_,hl.kept hg2 (.inr (Zab hl hk (by decide))),fun g hg=>?_,fun g hg=>?_,ZiD h hp (fun g hg=>h.ow g ((Zaf _ _ _).symm.trans hg)) hgr⟩
 ·rw[e1]
  simpa [Zg5] using hk.set_ 0 (.slice A' (mbs.length+1) c')
 ·rw[e1,List.map_append];exact hO.kept hg2 (.inr (Zab hO hk (by decide)))
 ·rcases hat g ((Zaf _ _ _).trans hg) with h1|h1
  ·have hlt:=(h.wrow.lt g h1).2;rw[ZbX _ _ _ g hlt];exact h.ow g ((Zaf _ _ _).symm.trans h1)
  ·exact ZfF _ _ _ (Nat.le_of_lt h1)
 ·rw[ZbX _ _ _ g (h.lrow.lt g ((Zaf _ _ _).trans hg)).2];exact h.ol g hg
theorem Zao.addK(h:Zao own w xb I mbs lbs mss lss AW cW AL cL cnt){lb:Nat}{A':Option Addr}{c':Nat}(hp:ZcH own w I mbs (lbs++[lb]) mss lss')(hgr:w.grownBy wa (Value.slice AL lbs.length cL).ownBlock)(hO:wa.ownsRow 0 126 1 (.slice A' (lbs.length+1) c') (lbs.length+1) (lbs.map ptV++[ptV lb]))
  (hat:∀g,(Value.slice A' (lbs.length+1) c').ownBlock=some g->(Value.slice AL lbs.length cL).ownBlock=some g\/w.heap.size<g):Zao (lab own w.heap.size 1) (wa.setCell ⟨xb,1,none⟩ (.slice A' (lbs.length+1) c')) xb I mbs (lbs++[lb]) mss lss' AW cW A' c' cnt:=by
 have hg2:=Zak (p:=⟨xb,1,none⟩) (World.grownBy.refl wa (some xb)) (.inl rfl) (.slice A' (lbs.length+1) c');have hk:=h.blk.other h.lrow hgr (by decide);have hl:=h.wrow.kept hgr (ZbB h.wrow h.lrow (by decide));have e1:(lbs++[lb]).length=lbs.length+1:=by simp
 refine⟨?_,(ZbX _ _ _ xb h.blk.lt).trans h.ox,hl.kept hg2 (.inr (Zab hl hk (by decide))),?_,fun g hg=>?_,fun g hg=>?_,ZiD h hp (fun g hg=>h.ol g ((Zaf _ _ _).symm.trans hg)) hgr⟩
 ·rw[e1]
  simpa [Zg5] using hk.set_ 1 (.slice A' (lbs.length+1) c')
 ·rw[e1,List.map_append];exact hO.kept hg2 (.inr (Zab hO hk (by decide)))
 ·rw[ZbX _ _ _ g (h.wrow.lt g ((Zaf _ _ _).trans hg)).2];exact h.ow g hg
 ·rcases hat g ((Zaf _ _ _).trans hg) with h1|h1
  ·have hlt:=(h.lrow.lt g h1).2;rw[ZbX _ _ _ g hlt];exact h.ol g ((Zaf _ _ _).symm.trans h1)
  ·exact ZfF _ _ _ (Nat.le_of_lt h1)
end
section
open Go.RowKit
theorem Zo9{w:World}{b cp:Nat}{S:Nat->Prop}(h:Blk w b 243 (Zgc none 0 0 cp 0 0 0))(h1:1<=cp)(h2:cp<=1048576)(hS:S b):ZaP S w b cp 0 0 []:=
 ⟨none,0,0,0,[],hS,h,World.ownsRow_nil _ _ _ _,fun g hg=>by simp[Value.ownBlock] at hg,rfl,(Nat.zero_min _).symm,rfl,YaF _,Nat.zero_le _,by omega,h1,h2,fun j hj=>by omega⟩
def Ze9(I:InC)(k:Nat):List MS:=(List.range k).map (ZdH I)
def Zfa(k:Nat):List LS:=List.replicate k ⟨0,0,[]⟩
theorem ZmM(I:InC)(k:Nat):Ze9 I (k+1)=Ze9 I k++[ZdH I k]:=by simp[Ze9,List.range_succ]
theorem ZmN(k:Nat):Zfa (k+1)=Zfa k++[⟨0,0,[]⟩]:=by simp[Zfa,List.replicate_succ']
def Zvq(B:Nat)(w:World)(xb:Nat)(I:InC)(mss:List MS)(lss:List LS)(cnt:Nat):Prop:=∃own mbs lbs AW cW AL cL,Zao own w xb I mbs lbs mss lss AW cW AL cL cnt/\mbs.length=I.c.wk.toNat/\lbs.length=I.c.wk.toNat/\(∀j,own j≠0->B<=j)
theorem ZnT{w:World}{base n k c:Nat}{A:Option Addr}{e:TypeId}{l:List Nat}{f:Nat->Value}{b:Nat}(h:w.ownsRow base e 1 (.slice A n c) n (l.map f))(hx:l[k]?=some b)(hk:k<n):∃g,A=some ⟨g,0,none⟩/\g<w.heap.size/\w.cell? ⟨g,k,none⟩=some (f b):=by
 have hr:=Rd.of_own h;obtain⟨g,o,e',hlt,hc⟩:=hr.2 (by omega);obtain⟨A',cap',hv,_,_,hg⟩:=ZaG h;injection hv with hA _ _
 obtain⟨g',hg1,_,_⟩:=hg (by omega);rw[hA,hg1] at e';injection e' with e'
 injection e' with e1 e2
 subst e1 e2;refine⟨g',by rw[hA,hg1],hlt,?_⟩;have:=hc k (f b) (by rw[YaR,hx];rfl)
 rwa [Nat.zero_add] at this
theorem Zex{own:Nat->Nat}{w:World}{xb:Nat}{I:InC}{mbs lbs:List Nat}{mss:List MS}{lss:List LS}{AW:Option Addr}{cW:Nat}{AL:Option Addr}{cL cnt:Nat}(h:Zao own w xb I mbs lbs mss lss AW cW AL cL cnt)(n x b li lo:Nat)(hn:mbs.length=n)(hl:lbs.length=n)(hx:x<n)(hn64:n<=64)(hb:mbs[x]?=some b)(hi:lbs[(x+n-1)%n]?=some li)(ho:lbs[x]?=some lo) :
  Calls prog 97 #[.pointer (some ⟨xb,0,none⟩),.int .i64 x] w fun e w'=>e=.returned (.tuple #[ifV b,ptV li,ptV lo,.bool true])/\Bz0 w w':=by
 have x0:=h.blk.cell 0;have x1:=h.blk.cell 1;have xl:=h.blk.lt;have hw:=h.wrow;have hr:=h.lrow;rw[hn] at hw x0;rw[hl] at hr x1;obtain⟨gw,rfl,lw,cw⟩:=ZnT hw hb hx;obtain⟨p,hp⟩:∃p,(x+n-1)%n=p:=⟨_,rfl⟩;have hpn:p<n:=by rw[<-hp];exact Nat.mod_lt _ (by omega)
 rw[hp] at hi;obtain⟨gl,rfl,lg,ci⟩:=ZnT hr hi hpn;obtain⟨gl',e',-,co⟩:=ZnT hr ho hx;injection e' with e'
 injection e' with e'
 subst e';have g1:decide ((x:Int)<0)=false:=YaI (by omega);have g2:decide ((n:Int)<=(x:Int))=false:=YaI (by omega);obtain⟨s,hs⟩:∃s,x+n=s:=⟨_,rfl⟩;obtain⟨s1,hs1⟩:∃s1,x+n-1=s1:=⟨_,rfl⟩;have w1:IntKind.i64.wrap ((x:Int)+(n:Int))=(s:Int):=by rw[show (x:Int)+(n:Int)=(s:Int) by omega];exact IntWalk.i64_in _ (by omega)
 have w2:IntKind.i64.wrap ((s:Int)-1)=(s1:Int):=by rw[show (s:Int)-1=(s1:Int) by omega];exact IntWalk.i64_in _ (by omega)
 rw[hs1] at hp;have hm:(s1:Int)%(n:Int)=(p:Int):=by rw[<-hp];exact(Int.natCast_emod s1 n).symm
 have HS:=hid hs;have HS1:=hid hs1;have HP:=hid hp;have i1:(0:Int)<=(x:Int):=by omega
 have i2:(x:Int)<(n:Int):=by omega
 have i3:(0:Int)<=(p:Int):=by omega
 have i4:(p:Int)<(n:Int):=by omega
 have nz:¬(n:Int)=0:=by omega
 clear h hw hr hn hl hb hi ho hs hs1 hp
 go_enter func97,ntmps97
 go_wp2_with fail;go_region;go_wp2_with fail;exact bodyPost_ret (v:=.tuple #[ifV b,ptV li,ptV lo,.bool true]) (by simp[results,results97,go_sem]) rfl ⟨rfl,(bR0 _ _).drew⟩
theorem ZnU (b : Nat) (W : World) : (method 544 37 (.pointer (some ⟨b,0,none⟩)) "Do").run prog W = .ok (128,.pointer (some ⟨b,0,none⟩)) W := by kernel_rfl
theorem Zpa (b : Nat) (W : World) : (method 544 37 (.pointer (some ⟨b,0,none⟩)) "Next").run prog W = .ok (127,.pointer (some ⟨b,0,none⟩)) W := by kernel_rfl
theorem Zge (b : Nat) (W : World) : (method 544 37 (.pointer (some ⟨b,0,none⟩)) "Trajectory").run prog W = .ok (56,.pointer (some ⟨b,0,none⟩)) W := by kernel_rfl
theorem Zao.setC{own:Nat->Nat}{w:World}{xb:Nat}{I:InC}{mbs lbs:List Nat}{mss:List MS}{lss:List LS}{AW:Option Addr}{cW:Nat}{AL:Option Addr}{cL cnt:Nat}(h:Zao own w xb I mbs lbs mss lss AW cW AL cL cnt)(c:Nat):Zao own (w.setCell ⟨xb,2,none⟩ (.int .i64 c)) xb I mbs lbs mss lss AW cW AL cL c/\But (fun i=>own i≠0) w (w.setCell ⟨xb,2,none⟩ (.int .i64 c)):=by
 have hg2:=Zak (p:=⟨xb,2,none⟩) (World.grownBy.refl w (some xb)) (.inl rfl) (.int .i64 c);refine⟨⟨by simpa [Zg5] using h.blk.set_ 2 (.int .i64 c),h.ox,h.wrow.kept hg2 (.inr (Zab h.wrow h.blk (by decide))),h.lrow.kept hg2 (.inr (Zab h.lrow h.blk (by decide))),h.ow,h.ol,h.parts.move hg2.size (fun i hi e=>hg2.block i hi (fun e1=>?_)) (fun _ _=>rfl)⟩,But.of_gr hg2 (by rw[h.ox];decide)⟩;injection e1 with e1
 subst e1;have:=h.ox;omega
structure ZxZ(own own':Nat->Nat)(w w':World):Prop where
 old:∀i,i<w.heap.size->own' i=own i
 new:∀i,own' i≠0->own i≠0\/w.heap.size<=i
 but:But (fun i=>own i≠0) w w'
theorem ZcI{own:Nat->Nat}{w:World}{xb:Nat}{I:InC}{mbs lbs:List Nat}{mss mss':List MS}{lss lss':List LS}{AW:Option Addr}{cW:Nat}{AL:Option Addr}{cL cnt:Nat}(h:Zao own w xb I mbs lbs mss lss AW cW AL cL cnt)(n x b li lo:Nat)(hn:mbs.length=n)(hl:lbs.length=n)(hx:x<n)(hn64:n<=64)(hb:mbs[x]?=some b)(hi:lbs[(x+n-1)%n]?=some li)(ho:lbs[x]?=some lo)(hc:cnt<1000000000000)
  (hdo:∀W,Below w.heap.size w W->Calls prog 128 #[.pointer (some ⟨b,0,none⟩),.pointer (some ⟨li,0,none⟩),.pointer (some ⟨lo,0,none⟩)] W fun e w'=>e=.returned (.int .i64 0)/\∃own',Zao own' w' xb I mbs lbs mss' lss' AW cW AL cL cnt/\ZxZ own own' W w') :
  Calls prog 71 #[.pointer (some ⟨xb,0,none⟩),.int .i64 x] w fun e w'=>e=.returned (.bool true)/\∃own',Zao own' w' xb I mbs lbs mss' lss' AW cW AL cL (cnt+1)/\(∀i,own' i≠0->own i≠0\/w.heap.size<=i)/\But (fun i=>own i≠0) w w':=by
 have HAT:=hid (Zex h n x b li lo hn hl hx hn64 hb hi ho);have HDO:=hid hdo;have hme:=ZnU b;have HOX:=hid h.ox;have HC:=hid hc;clear h hdo hb hi ho
 go_enter func71,ntmps71
 go_wp2_with fail;((with_reducible refine HAT.out.mono ?_);rintro e w1 ⟨rfl,hb1⟩);have HB1:=hid hb1;clear hb1;go_wp2_with fail;((with_reducible refine(HDO.out w1 HB1.out).mono ?_);rintro e w2 ⟨rfl,own',hW2,hst2⟩);have c2:=hW2.blk.cell 2;have f2:=hW2.blk.frozen 2;have l2:=hW2.blk.lt;obtain⟨c,hc'⟩:∃c,cnt+1=c:=⟨_,rfl⟩;have hwc:IntKind.i64.wrap ((cnt:Int)+1)=(c:Int):=by rw[show (cnt:Int)+1=(c:Int) by omega];exact IntWalk.i64_in _ (by have:=HC.out;omega)
 have HW2:=hid hW2;have HS2:=hid hst2;have HCE:=hid hc';clear hW2 hst2 hc' hme hc;go_wp2_with fail;go_ret;have hfin:=HW2.out.setC c;rw[HCE.out];refine⟨rfl,own',hfin.1,fun i hi=>?_,?_⟩
 ·rcases HS2.out.new i hi with h1|h1
  ·exact .inl h1
  ·exact .inr (YaH HB1.out.size h1)
 ·refine Zg4 (S:=fun i=>own i≠0) ((But.of_below _ HB1.out).trans HS2.out.but) hfin.2 (fun i hi h=>?_);rw[<-HS2.out.old i (YaK hi HB1.out.size)];exact h
end
section
open Go.RowKit
variable{own:Nat→Nat}{w:World}{xb:Nat}{I:InC}{mbs lbs:List Nat}{mss:List MS}{lss:List LS}{AW:Option Addr}{cW:Nat}{AL:Option Addr}{cL cnt:Nat}
theorem ZcH.setM(h:ZcH own w I mbs lbs mss lss){own':Nat->Nat}{w':World}{x b:Nat}{s':MS}(hb:mbs[x]?=some b)(hs:w.heap.size<=w'.heap.size)(hk:∀i,i<w.heap.size->2<=own i->own i≠2*x+2->w'.heap[i]?=w.heap[i]?)(hl:∀i,i<w.heap.size->own' i=own i)(hm:Zaz (fun j=>own' j=2*x+2) w' b (I.mc x) s') :
  ZcH own' w' I mbs lbs (mss.set x s') lss:=by
 refine⟨by rw[List.length_set];exact h.lm,h.ll,fun i b' s h1 h2=>?_,fun i b' l h1 h2=>?_⟩
 ·by_cases hix:i=x
  ·subst hix;rw[hb] at h1;injection h1 with h1
   subst h1;rw[List.getElem?_set_self (by rw[h.lm];exact(YaG.1 hb).1)] at h2;injection h2 with h2
   subst h2;exact hm
  ·rw[List.getElem?_set_ne (fun e=>hix e.symm)] at h2;exact((h.mach i b' s h1 h2).mono (T:=fun j=>own' j=2*i+2) (fun j hj e=>by rw[hl j hj];exact e)).step hs (fun j hj e=>hk j hj (by rw[<-hl j hj,e];omega) (by rw[<-hl j hj,e];omega))
 ·exact((h.link i b' l h1 h2).mono (T:=fun j=>own' j=2*i+3) (fun j hj e=>by rw[hl j hj];exact e)).step hs (fun j hj e=>hk j hj (by rw[<-hl j hj,e];omega) (by rw[<-hl j hj,e];omega))
theorem ZcH.setML(h:ZcH own w I mbs lbs mss lss){own':Nat->Nat}{w':World}{x y b lb:Nat}{s':MS}{l':LS}(hb:mbs[x]?=some b)(hlb:lbs[y]?=some lb)(hs:w.heap.size<=w'.heap.size)(hk:∀i,i<w.heap.size->2<=own i->own i≠2*x+2->own i≠2*y+3->w'.heap[i]?=w.heap[i]?)(hl:∀i,i<w.heap.size->own' i=own i)(hm:Zaz (fun j=>own' j=2*x+2) w' b (I.mc x) s')
  (hL:ZaP (fun j=>own' j=2*y+3) w' lb I.c.ca.toNat l'.s l'.r l'.q):ZcH own' w' I mbs lbs (mss.set x s') (lss.set y l'):=by
 refine⟨by rw[List.length_set];exact h.lm,by rw[List.length_set];exact h.ll,fun i b' s h1 h2=>?_,fun i b' l h1 h2=>?_⟩
 ·by_cases hix:i=x
  ·subst hix;rw[hb] at h1;injection h1 with h1
   subst h1;rw[List.getElem?_set_self (by rw[h.lm];exact(YaG.1 hb).1)] at h2;injection h2 with h2
   subst h2;exact hm
  ·rw[List.getElem?_set_ne (fun e=>hix e.symm)] at h2;exact((h.mach i b' s h1 h2).mono (T:=fun j=>own' j=2*i+2) (fun j hj e=>by rw[hl j hj];exact e)).step hs (fun j hj e=>hk j hj (by rw[<-hl j hj,e];omega) (by rw[<-hl j hj,e];omega) (by rw[<-hl j hj,e];omega))
 ·by_cases hiy:i=y
  ·subst hiy;rw[hlb] at h1;injection h1 with h1
   subst h1;rw[List.getElem?_set_self (by rw[h.ll];exact(YaG.1 hlb).1)] at h2;injection h2 with h2
   subst h2;exact hL
  ·rw[List.getElem?_set_ne (fun e=>hiy e.symm)] at h2;exact((h.link i b' l h1 h2).mono (T:=fun j=>own' j=2*i+3) (fun j hj e=>by rw[hl j hj];exact e)).step hs (fun j hj e=>hk j hj (by rw[<-hl j hj,e];omega) (by rw[<-hl j hj,e];omega) (by rw[<-hl j hj,e];omega))
theorem Zao.turn(h:Zao own w xb I mbs lbs mss lss AW cW AL cL cnt){own':Nat->Nat}{w':World}{mss':List MS}{lss':List LS}(hs:w.heap.size<=w'.heap.size)(hk:∀i,i<w.heap.size->own i=1->w'.heap[i]?=w.heap[i]?)(hl:∀i,i<w.heap.size->own' i=own i)(hp:ZcH own' w' I mbs lbs mss' lss'):Zao own' w' xb I mbs lbs mss' lss' AW cW AL cL cnt:=
 ⟨(hk xb h.blk.lt h.ox).trans h.blk,(hl xb h.blk.lt).trans h.ox,Hg.own (S:=fun i=>own i=1) h.wrow (fun g hg=>h.ow g ((Zaf _ _ _).symm.trans hg)) w' hs hk,Hg.own (S:=fun i=>own i=1) h.lrow (fun g hg=>h.ol g ((Zaf _ _ _).symm.trans hg)) w' hs hk,
  fun g hg=>(hl g (h.wrow.lt g ((Zaf _ _ _).trans hg)).2).trans (h.ow g hg),fun g hg=>(hl g (h.lrow.lt g ((Zaf _ _ _).trans hg)).2).trans (h.ol g hg),hp⟩
def ZmO(own:Nat->Nat)(w:World)(xb:Nat)(I:InC)(mbs lbs:List Nat)(mss:List MS)(lss:List LS)(AW:Option Addr)(cW:Nat)(AL:Option Addr)(cL cnt:Nat)(e:Ending)(w':World):Prop:=
 e=.returned (.bool true)/\∃own',Zao own' w' xb I mbs lbs mss lss AW cW AL cL (cnt+1)/\(∀i,own' i≠0->own i≠0\/w.heap.size<=i)/\But (fun i=>own i≠0) w w'
theorem ZjD(h:Zao own w xb I mbs lbs mss lss AW cW AL cL cnt)(hO:I.Ok)(n x:Nat)(s:MS)(it:ZaB)(hn:mbs.length=n)(hl:lbs.length=n)(hx:x<n)(hn64:n<=64)(hxw:(x:Int)<I.c.wk)(hc:cnt<1000000000000)(hs:mss[x]?=some s)(hi:s.its[s.nx]?=some it)(hk:it.1.1=1\/it.1.1=2\/it.1.1=5\/it.1.1=6)(hit:Zf1 (I.mc x) it)(hsm:s.Small) :
  Calls prog 71 #[.pointer (some ⟨xb,0,none⟩),.int .i64 x] w (ZmO own w xb I mbs lbs (mss.set x (ZaR (I.mc x) (ZaW (I.mc x) s it) it.1.2.1)) lss AW cW AL cL cnt):=by
 obtain⟨b,hb⟩:∃b,mbs[x]?=some b:=⟨_,YaA (by omega)⟩;obtain⟨li,hli⟩:∃b,lbs[(x+n-1)%n]?=some b:=⟨_,YaA (by rw[hl];exact Nat.mod_lt _ (by omega))⟩;obtain⟨lo,hlo⟩:∃b,lbs[x]?=some b:=⟨_,YaA (by omega)⟩;refine ZcI h n x b li lo hn hl hx hn64 hb hli hlo hc (fun W hW=>?_);have hWW:=h.below (own':=own) hW (fun _ _=>rfl);refine(Zo8 (fun j=>own j=2*x+2) b (I.mc x) s it _ _ W (hO.mc hxw) (hWW.parts.mach x b s hb hs) hi hk hit hsm).mono ?_;rintro e w' ⟨rfl,hm,hbu⟩;refine⟨rfl,lab own W.heap.size (2*x+2),hWW.turn hbu.size (fun i hi e=>hbu.block i hi (fun e2=>by omega)) (ZbX _ _ _) (hWW.parts.setM hb hbu.size (fun i hi _ hne=>hbu.block i hi hne) (ZbX _ _ _) (hm.mono (fun i hi hS=>?_))),ZbX _ _ _,fun i hi=>?_,hbu.mono (fun i _ e=>by omega)⟩
 ·rcases hS with hS|hS
  ·by_cases hiW:i<W.heap.size
   ·rw[ZbX _ _ _ i hiW];exact hS
   ·exact ZfF _ _ _ (by omega)
  ·exact ZfF _ _ _ hS
 ·unfold lab at hi
  split at hi
  ·exact .inl hi
  ·exact .inr (by omega)
def Ztz(own:Nat->Nat)(n m k l:Nat):Nat->Nat:=fun j=>if j<n then own j else if j<m then k else l
theorem ZbZ(own:Nat->Nat)(n m k l:Nat):∀i,i<n->Ztz own n m k l i=own i:=fun i hi=>if_pos hi
theorem ZtA(own:Nat->Nat){n m k l i:Nat}(h1:n<=i)(h2:i<m):Ztz own n m k l i=k:=by unfold Ztz;rw[if_neg (by omega),if_pos h2]
theorem ZnV(own:Nat->Nat){n m k l i:Nat}(h1:n<=i)(h2:m<=i):Ztz own n m k l i=l:=by unfold Ztz;rw[if_neg (by omega),if_neg (by omega)]
theorem ZhR(h:Zao own w xb I mbs lbs mss lss AW cW AL cL cnt)(hO:I.Ok)(n x:Nat)(s:MS)(l:LS)(it:ZaB)(hn:mbs.length=n)(hl:lbs.length=n)(hx:x<n)(hn64:n<=64)(hxw:(x:Int)<I.c.wk)(hc:cnt<1000000000000)(hs:mss[x]?=some s)(hls:lss[x]?=some l)(hi:s.its[s.nx]?=some it)(hk:it.1.1=3)(hit:Zf1 (I.mc x) it)(hsm:s.Small)(hroom:l.s-l.r<I.c.ca.toNat)(hs9:l.s<1000000000) :
  Calls prog 71 #[.pointer (some ⟨xb,0,none⟩),.int .i64 x] w (ZmO own w xb I mbs lbs (mss.set x (ZaR (I.mc x) s it.1.2.1)) (lss.set x ⟨l.s+1,l.r,l.q++[(it.2.2.1,pcL s.G it.2.2.2.1.toNat (it.2.2.2.2-it.2.2.2.1).toNat)]⟩) AW cW AL cL cnt):=by
 obtain⟨b,hb⟩:∃b,mbs[x]?=some b:=⟨_,YaA (by omega)⟩;obtain⟨li,hli⟩:∃b,lbs[(x+n-1)%n]?=some b:=⟨_,YaA (by rw[hl];exact Nat.mod_lt _ (by omega))⟩;obtain⟨lo,hlo⟩:∃b,lbs[x]?=some b:=⟨_,YaA (by omega)⟩;refine ZcI h n x b li lo hn hl hx hn64 hb hli hlo hc (fun W hW=>?_);have hWW:=h.below (own':=own) hW (fun _ _=>rfl);refine(ZmK (fun j=>own j=2*x+2/\j<W.heap.size) (fun j=>own j=2*x+3/\j<W.heap.size) b (I.mc x) s it _ lo I.c.ca.toNat l.s l.r l.q W (hO.mc hxw) ((hWW.parts.mach x b s hb hs).mono (fun i hi h=>⟨h,hi⟩)) ((hWW.parts.link x lo l hlo hls).mono (fun i hi h=>⟨h,hi⟩)) (fun i _ h1 h2=>by have:=h1.1;have:=h2.1;omega) hroom hs9 hi hk hit hsm).mono ?_;rintro e w' ⟨rfl,B,hB,hm,hL,hbu⟩;refine⟨rfl,Ztz own W.heap.size B (2*x+3) (2*x+2),hWW.turn hbu.size (fun i hi e=>hbu.block i hi (fun e2=>by rcases e2 with e2|e2<;>have:=e2.1<;>omega)) (ZbZ _ _ _ _ _) (hWW.parts.setML hb hlo hbu.size (fun i hi _ h1 h2=>hbu.block i hi (fun e2=>by rcases e2 with e2|e2<;>have:=e2.1<;>omega)) (ZbZ _ _ _ _ _) (hm.mono (fun i hi hS=>?_)) (hL.mono (fun i hi hT=>?_))),ZbZ _ _ _ _ _,fun i hi=>?_,hbu.mono (fun i _ e=>by rcases e with e|e<;>have:=e.1<;>omega)⟩
 ·rcases hS with hS|hS
  ·rw[ZbZ _ _ _ _ _ i hS.2];exact hS.1
  ·exact ZnV _ (by omega) hS
 ·rcases hT with hT|hT
  ·rw[ZbZ _ _ _ _ _ i hT.2];exact hT.1
  ·exact ZtA _ hT.1 hT.2
 ·unfold Ztz at hi
  split at hi
  ·exact .inl hi
  ·exact .inr (by omega)
theorem ZhS(h:Zao own w xb I mbs lbs mss lss AW cW AL cL cnt)(hO:I.Ok)(n x y:Nat)(s:MS)(l:LS)(it:ZaB)(vs:List Int)(q:List (Zfo×List Int))(hn:mbs.length=n)(hl:lbs.length=n)(hx:x<n)(hn64:n<=64)(hxw:(x:Int)<I.c.wk)(hc:cnt<1000000000000)(hs:mss[x]?=some s)(hy:(x+n-1)%n=y)(hls:lss[y]?=some l)(hi:s.its[s.nx]?=some it)(hk:it.1.1=4)(hit:Zf1 (I.mc x) it)(hsm:s.Small)(hq:l.q=(it.2.2.1,vs)::q)(hv:vs.length=(it.2.2.2.2-it.2.2.2.1).toNat) :
  Calls prog 71 #[.pointer (some ⟨xb,0,none⟩),.int .i64 x] w (ZmO own w xb I mbs lbs (mss.set x (ZaR (I.mc x) { s with G:=ZdJ it.2.1.2 s.G it.2.2.2.1.toNat (it.2.2.2.2-it.2.2.2.1).toNat vs } it.1.2.1)) (lss.set y ⟨l.s,l.r+1,q⟩) AW cW AL cL cnt):=by
 obtain⟨b,hb⟩:∃b,mbs[x]?=some b:=⟨_,YaA (by omega)⟩;obtain⟨li,hli⟩:∃b,lbs[(x+n-1)%n]?=some b:=⟨_,YaA (by rw[hl];exact Nat.mod_lt _ (by omega))⟩;obtain⟨lo,hlo⟩:∃b,lbs[x]?=some b:=⟨_,YaA (by omega)⟩;refine ZcI h n x b li lo hn hl hx hn64 hb hli hlo hc (fun W hW=>?_);rw[hy] at hli;have hWW:=h.below (own':=own) hW (fun _ _=>rfl);have hL0:=hWW.parts.link y li l hli hls;rw[hq] at hL0;refine(ZmL (fun j=>own j=2*x+2/\j<W.heap.size) (fun j=>own j=2*y+3/\j<W.heap.size) b (I.mc x) s it _ li I.c.ca.toNat l.s l.r vs q W (hO.mc hxw) ((hWW.parts.mach x b s hb hs).mono (fun i hi h=>⟨h,hi⟩)) (hL0.mono (fun i hi h=>⟨h,hi⟩)) (fun i _ h1 h2=>by have:=h1.1;have:=h2.1;omega) hi hk hit hsm hv).mono ?_;rintro e w' ⟨rfl,B,hB,hm,hL,hbu⟩;refine⟨rfl,Ztz own W.heap.size B 0 (2*x+2),hWW.turn hbu.size (fun i hi e=>hbu.block i hi (fun e2=>by rcases e2 with e2|e2<;>have:=e2.1<;>omega)) (ZbZ _ _ _ _ _) (hWW.parts.setML hb hli hbu.size (fun i hi _ h1 h2=>hbu.block i hi (fun e2=>by rcases e2 with e2|e2<;>have:=e2.1<;>omega)) (ZbZ _ _ _ _ _) (hm.mono (fun i hi hS=>?_)) (hL.mono (fun i hi hT=>?_))),ZbZ _ _ _ _ _,fun i hi=>?_,hbu.mono (fun i _ e=>by rcases e with e|e<;>have:=e.1<;>omega)⟩
 ·rcases hS with hS|hS
  ·rw[ZbZ _ _ _ _ _ i hS.2];exact hS.1
  ·exact ZnV _ (by omega) hS
 ·rw[ZbZ _ _ _ _ _ i hT.2];exact hT.1
 ·unfold Ztz at hi
  split at hi
  ·exact .inl hi
  ·exact .inr (by omega)
end
structure Rg(S V:Type) where
 n:Nat
 N:Nat
 kd:Nat->Nat->Nat
 loc:Nat->Nat->S->S
 msg:Nat->Nat->S->V
 rcv:Nat->Nat->V->S->S
 s0:Nat->S
section
variable{S V:Type}(R:Rg S V)
structure Ok:Prop where
 n1:1<=R.n
 one:R.n=1->∀x i,R.kd x i≠2
 pair:∀x i,x<R.n->(R.kd x i=2↔R.kd (R.sc x) (i+1)=3)
 zero:∀x,R.kd x 0≠3
 sep:∀x y i,R.kd x i=2->R.kd y (i+1)≠2
def sy:Nat->Nat->S
 |0,x=>R.s0 x
 |p+1,x=>if R.kd x p=1 then R.loc x p (sy p x) else if R.kd x p=3 then R.rcv x p (R.msg (R.pv x) (p-1) (sy p (R.pv x))) (sy p x) else sy p x
def sn(x a:Nat):Nat->List Nat
 |0=>[]
 |p+1=>if R.kd x p=2/\a<=p+1 then sn x a p++[p] else sn x a p
end
section
variable{S V:Type}(R:Rg S V)
variable{R}
def ms(R:Rg S V)(x:Nat)(l:List Nat):List V:=l.map (fun p=>R.msg x p (R.sy p x))
end
theorem Zfb{α β γ:Type}(g:β->Option γ)(f:α->List β):∀l:List α,(l.flatMap f).filterMap g=l.flatMap (fun x=>(f x).filterMap g)
 |[]=>rfl
 |x::l=>by rw[List.flatMap_cons,List.filterMap_append,Zfb g f l,List.flatMap_cons]
theorem Zrp{α β γ:Type}(g:β->Option γ)(f:α->β)(h:α->γ)(e:∀a,g (f a)=some (h a)):∀l:List α,(l.map f).filterMap g=l.map h
 |[]=>rfl
 |a::l=>by rw[List.map_cons,YaO,e a,Zrp g f h e l];rfl
theorem Zci{α β:Type}(f g:α->List β):∀l:List α,(∀x∈l,f x=g x)->l.flatMap f=l.flatMap g
 |[],_=>rfl
 |x::l,h=>by rw[List.flatMap_cons,List.flatMap_cons,h x (by simp),Zci f g l (fun y hy=>h y (by simp[hy]))]
theorem ZnW{α β γ:Type}(g:β->γ)(f:α->List β):∀l:List α,(l.flatMap f).map g=l.flatMap (fun x=>(f x).map g)
 |[]=>rfl
 |x::l=>by rw[List.flatMap_cons,List.map_append,ZnW g f l,List.flatMap_cons]
theorem Zrq(s b p r:Int)(xs ys:List (Int×Int))(i:Nat)(h:max xs.length ys.length<=i):ZpT s b p r xs ys i=[]:=by
 unfold ZpT;rw[YaN (by omega),YaN (by omega)];rfl
theorem Zrr(s b p r:Int)(xs ys:List (Int×Int))(k:Nat)(h:max xs.length ys.length<=k):Zhs s b p r xs ys k=Zdb s b p r xs ys:=by
 induction k with
 |zero=>unfold Zdb;rw[show max xs.length ys.length=0 by omega]
 |succ k ih=>
  by_cases e:max xs.length ys.length=k+1
  ·unfold Zdb;rw[e]
  ·rw[ZcL,ih (by omega),Zrq _ _ _ _ _ _ _ (by omega),List.append_nil]
abbrev Sl4:=Nat×Nat×Nat×Nat
def PlC.ph(c:PlC)(k:Nat):Int:=((k/(c.m-1):Nat):Int)
def PlC.rd(c:PlC)(k:Nat):Int:=((k%(c.m-1):Nat):Int)
def PlC.sq(c:PlC)(w k:Nat):Nat:=(((w:Int)-c.rd k+c.ph k)%(c.m:Int)).toNat
def PlC.rq(c:PlC)(w k:Nat):Nat:=(((w:Int)-c.rd k+c.ph k-1)%(c.m:Int)).toNat
def PlC.chk(c:PlC)(j q:Nat):List (Int×Int):=match c.bks[j]? with
 |some y=>chS y.1 y.2 c.m c.ch q
 |none=>[]
def PlC.itS(c:PlC)(w:Nat)(t:Int)(s:Sl4):Option ZaB:=
 if s.1=3 then ((c.chk s.2.2.1 (c.sq w s.2.1))[s.2.2.2]?).map fun x=>ZhJ t ((true,false),(t,(s.2.2.1:Int),c.ph s.2.1,c.rd s.2.1,(s.2.2.2:Int)),x)
 else if s.1=4 then ((c.chk s.2.2.1 (c.rq w s.2.1))[s.2.2.2]?).map fun x=>ZhJ t ((false,decide (c.ph s.2.1=0)),(t,(s.2.2.1:Int),c.ph s.2.1,c.rd s.2.1,(s.2.2.2:Int)),x)
 else some (Zb6 s.1 t (s.2.2.1:Int))
def Zk8(k j B:Nat):List Sl4:=(List.range B).flatMap fun b=>[(3,k,j,b),(4,k,j,b)]
def Zst(lo n B k:Nat):List Sl4:=(List.range n).flatMap fun i=>Zk8 k (lo+i) B
def PlC.grpS(c:PlC)(B:Nat)(g:Int×Int):List Sl4:=
 (List.range (g.2-g.1).toNat).map (fun i=>(2,0,g.1.toNat+i,0))++(List.range (2*(c.m-1))).flatMap (Zst g.1.toNat (g.2-g.1).toNat B)++(List.range (g.2-g.1).toNat).map (fun i=>(5,0,g.1.toNat+i,0))
def PlC.stepS(c:PlC)(B:Nat):List Sl4:=(List.range c.mi).map (fun a=>(1,0,a,0))++c.grps.flatMap (c.grpS B)++[(6,0,0,0)]
section
variable{c:PlC}
theorem PlC.q_lt(h:c.Ok)(w k:Nat):c.sq w k<c.m/\c.rq w k<c.m:=by
 have hm:=h.m1;have z1:=Int.emod_nonneg ((w:Int)-c.rd k+c.ph k) (b:=(c.m:Int)) (by omega);have z2:=Int.emod_lt_of_pos ((w:Int)-c.rd k+c.ph k) (b:=(c.m:Int)) (by omega);have z3:=Int.emod_nonneg ((w:Int)-c.rd k+c.ph k-1) (b:=(c.m:Int)) (by omega);have z4:=Int.emod_lt_of_pos ((w:Int)-c.rd k+c.ph k-1) (b:=(c.m:Int)) (by omega);unfold PlC.sq PlC.rq;omega
theorem Zrs(h:c.Ok)(j q:Nat)(hq:q<c.m):(c.chk j q).length<=60:=by
 unfold PlC.chk
 split
 ·rename_i y hy
  obtain⟨h0,h1,h2⟩:=PlC.bks_in hy;have hp:=h.p2;obtain⟨a1,a2,a3⟩:=ZcD y.1 y.2 c.m q h1 (by omega);rw[chS,Zed];have:=Zck ((Zdf y.1 y.2 c.m q).2-(Zdf y.1 y.2 c.m q).1).toNat c.ch.toNat;omega
 ·exact Nat.zero_le _
theorem Zrt(h:c.Ok)(w:Nat)(hw:w<c.m)(t:Int)(k j:Nat)(hk:k<2*(c.m-1)):c.jobI w t j (c.ph k) (c.rd k)=(Zk8 k j 60).filterMap (c.itS w t):=by
 have hm:=h.m1;have hl:=PlC.q_lt h w k;have b1:=Zrs h j (c.sq w k) hl.1;have b2:=Zrs h j (c.rq w k) hl.2;have hM:0<c.m-1:=by omega
 have h1:k/(c.m-1)<2:=Nat.div_lt_of_lt_mul (by rw[Nat.mul_comm];exact hk);have h2:k%(c.m-1)<c.m-1:=Nat.mod_lt _ hM;have hph:c.ph k=0\/c.ph k=1:=by
  unfold PlC.ph;generalize k/(c.m-1)=z at h1 ⊢;omega
 have hrd:0<=c.rd k/\c.rd k<(c.m:Int)-1:=by
  unfold PlC.rd;generalize k%(c.m-1)=z at h2 ⊢;omega
 unfold PlC.jobI Zk8;rw[Zfb];unfold PlC.chk at b1 b2
 cases hb:c.bks[j]? with
 |none=>
  have:∀b:Nat,([(3,k,j,b),(4,k,j,b)]:List Sl4).filterMap (c.itS w t)=[]:=fun b=>by
   simp[PlC.itS,PlC.chk,hb]
  rw[Zci _ (fun _=>[]) _ (fun b _=>this b)];simp
 |some y=>
  rw[hb] at b1 b2;dsimp only at b1 b2 ⊢;unfold rY ZcP;rw[if_pos ⟨by omega,by omega,hph,hrd.1,hrd.2⟩];rw[<-Zrr _ _ _ _ _ _ 60 (by unfold PlC.sq at b1;unfold PlC.rq at b2;omega)];unfold Zhs;rw[ZnW];refine Zci _ _ _ (fun b _=>?_);simp only[ZpT,PlC.itS,PlC.chk,hb,YaO,YaP,List.map_append,PlC.sq,PlC.rq]
  cases (chS y.1 y.2 c.m c.ch (((w:Int)-c.rd k+c.ph k)%(c.m:Int)).toNat)[b]?<;>cases (chS y.1 y.2 c.m c.ch (((w:Int)-c.rd k+c.ph k-1)%(c.m:Int)).toNat)[b]?<;>simp
theorem Zey(w:Nat)(t:Int)(kd lo:Nat)(h3:kd≠3)(h4:kd≠4)(n:Nat):ZaF kd t lo n=((List.range n).map (fun i=>((kd,0,lo+i,0):Sl4))).filterMap (c.itS w t):=by
 unfold ZaF;rw[Zrp (c.itS w t) (fun i=>((kd,0,lo+i,0):Sl4)) (fun i=>Zb6 kd t ((lo+i:Nat):Int)) (fun i=>by unfold PlC.itS;rw[if_neg h3,if_neg h4])]
theorem ZmP(h:c.Ok)(w:Nat)(hw:w<c.m)(t:Int)(g:Int×Int):c.groupG w t g=(c.grpS 60 g).filterMap (c.itS w t):=by
 unfold PlC.groupG PlC.groupI PlC.grpS;rw[List.filterMap_append,List.filterMap_append];have e2:=Zey (c:=c) w t 2 g.1.toNat (by decide) (by decide) (g.2-g.1).toNat;have e5:=Zey (c:=c) w t 5 g.1.toNat (by decide) (by decide) (g.2-g.1).toNat;rw[<-e2,<-e5,Zfb]
 congr 2
 unfold PlC.rndI;refine Zci _ _ _ (fun k hk=>?_);unfold PlC.jobsI Zst;rw[Zfb];exact Zci _ _ _ (fun i _=>Zrt h w hw t k _ (List.mem_range.1 hk))
theorem Zg6(h:c.Ok)(w:Nat)(hw:w<c.m)(t:Int):c.itemsI w t=(c.stepS 60).filterMap (c.itS w t):=by
 unfold PlC.itemsI PlC.stepS PlC.grpsI;rw[List.filterMap_append,List.filterMap_append,YaX (by rw[PlC.grps_length];exact YaF _),Zfb];have e1:=Zey (c:=c) w t 1 0 (by decide) (by decide) c.mi;simp only[Nat.zero_add] at e1;rw[<-e1]
 congr 1
 ·congr 1
  exact Zci _ _ _ (fun g _=>ZmP h w hw t g)
end
def Adj(l:List Sl4):Prop:=(∀q k j b,l[q]?=some (3,k,j,b)->l[q+1]?=some (4,k,j,b))/\(∀q k j b,l[q]?=some (4,k,j,b)->∃q',q=q'+1/\l[q']?=some (3,k,j,b))
theorem Adj.plain{l:List Sl4}(h:∀s∈l,s.1≠3/\s.1≠4):Adj l:=⟨fun q k j b e=>absurd rfl (h _ (YaL e)).1,fun q k j b e=>absurd rfl (h _ (YaL e)).2⟩
theorem Adj.pair(k j b:Nat):Adj [(3,k,j,b),(4,k,j,b)]:=by
 constructor
 ·intro q k' j' b' e
  match q with
  |0=>simp at e ⊢;exact e
  |1=>simp at e
  |q+2=>simp at e
 ·intro q k' j' b' e
  match q with
  |0=>simp at e
  |1=>simp at e;exact⟨0,rfl,by simp;exact e⟩
  |q+2=>simp at e
theorem ZbJ{α:Type}{l:List α}{q:Nat}{x:α}(h:l[q]?=some x):q<l.length:=by
 rcases Nat.lt_or_ge q l.length with h'|h'
 ·exact h'
 ·rw[YaN h'] at h;cases h
theorem Adj.app{l1 l2:List Sl4}(h1:Adj l1)(h2:Adj l2):Adj (l1++l2):=by
 constructor
 ·intro q k j b e
  by_cases hq:q<l1.length
  ·rw[YaV hq] at e;have:=h1.1 q k j b e
   rwa [YaV (ZbJ this)]
  ·rw[YaU (by omega)] at e;have:=h2.1 _ k j b e
   rwa [YaU (by omega),show q+1-l1.length=q-l1.length+1 by omega]
 ·intro q k j b e
  by_cases hq:q<l1.length
  ·rw[YaV hq] at e;obtain⟨q',e1,e2⟩:=h1.2 q k j b e;exact⟨q',e1,by rw[YaV (ZbJ e2)];exact e2⟩
  ·rw[YaU (by omega)] at e;obtain⟨q',e1,e2⟩:=h2.2 _ k j b e;exact⟨q'+l1.length,by omega,by rw[YaU (by omega),Nat.add_sub_cancel];exact e2⟩
theorem Adj.nil:Adj []:=Adj.plain (fun s h=>by cases h)
theorem Adj.flat{α:Type}(f:α->List Sl4)(h:∀a,Adj (f a)):∀l:List α,Adj (l.flatMap f)
 |[]=>Adj.nil
 |a::l=>by rw[List.flatMap_cons];exact(h a).app (Adj.flat f h l)
theorem ZtB(k j B:Nat):Adj (Zk8 k j B):=Adj.flat _ (fun b=>Adj.pair k j b) _
theorem Zg7(kd lo:Nat)(h3:kd≠3)(h4:kd≠4)(n:Nat):Adj ((List.range n).map (fun i=>((kd,0,lo+i,0):Sl4))):=Adj.plain (fun s hs=>by
 obtain⟨i,_,rfl⟩:=List.mem_map.1 hs;exact⟨h3,h4⟩)
theorem Zfc(c:PlC)(B:Nat):Adj (c.stepS B):=by
 unfold PlC.stepS;refine Adj.app (Adj.app ?_ (Adj.flat _ (fun g=>?_) _)) (Adj.plain (fun s hs=>by rw[List.mem_singleton.1 hs];exact⟨by decide,by decide⟩))
 ·have:=Zg7 1 0 (by decide) (by decide) c.mi
  simpa only[Nat.zero_add] using this
 ·unfold PlC.grpS;exact Adj.app (Adj.app (Zg7 2 _ (by decide) (by decide) _) (Adj.flat _ (fun k=>Adj.flat _ (fun i=>ZtB _ _ _) _) _)) (Zg7 5 _ (by decide) (by decide) _)
theorem Zpb(c:PlC)(B:Nat){s:Sl4}(hs:s∈c.stepS B)(h:s.1=3\/s.1=4):s.2.1<2*(c.m-1):=by
 unfold PlC.stepS PlC.grpS Zst Zk8 at hs;simp only[List.mem_append,List.mem_map,List.mem_flatMap,List.mem_range,List.mem_singleton,List.mem_cons,List.not_mem_nil,or_false] at hs
 rcases hs with(⟨a,_,rfl⟩|⟨g,_,(⟨i,_,rfl⟩|⟨k,hk,i,_,b,_,rfl|rfl⟩)|⟨i,_,rfl⟩⟩)|rfl
 ·exact absurd h (by simp)
 ·exact absurd h (by simp)
 ·exact hk
 ·exact hk
 ·exact absurd h (by simp)
 ·exact absurd h (by decide)
def PlC.kdS(c:PlC)(x:Nat)(s:Sl4):Nat:=
 if s.1=3 then (if s.2.2.2<(c.chk s.2.2.1 (c.sq x s.2.1)).length then 2 else 0) else if s.1=4 then (if s.2.2.2<(c.chk s.2.2.1 (c.rq x s.2.1)).length then 3 else 0) else 1
def PlC.kdN(c:PlC)(B x i:Nat):Nat:=match (c.stepS B)[i%(c.stepS B).length]? with
 |some s=>c.kdS x s
 |none=>0
theorem ZtC(c:PlC)(hm:1<=c.m)(x k:Nat):c.rq ((x+1)%c.m) k=c.sq x k:=by
 unfold PlC.rq PlC.sq
 congr 1
 rw[Int.natCast_emod,Int.natCast_add];have h1:∀a b:Int,(a%(c.m:Int)+b)%(c.m:Int)=(a+b)%(c.m:Int):=fun a b=>Int.emod_add_emod a c.m b
 have:=h1 ((x:Int)+((1:Nat):Int)) (- c.rd k+c.ph k-1);rw[show (x:Int)+((1:Nat):Int)+(- c.rd k+c.ph k-1)=(x:Int)-c.rd k+c.ph k by omega] at this;rw[<-this]
 congr 1
 omega
theorem Zk9(c:PlC)(B:Nat):1<=(c.stepS B).length:=by unfold PlC.stepS;simp only[YaS,List.length_singleton];omega
theorem Zpc(c:PlC)(B:Nat):(c.stepS B)[(c.stepS B).length-1]?=some (6,0,0,0):=by
 unfold PlC.stepS;rw[YaS,List.length_singleton,Nat.add_sub_cancel,YaU (YaF _),Nat.sub_self];rfl
theorem Zg8{c:PlC}(h:c.Ok)(B:Nat):(c.stepS B)[0]?=some (1,0,0,0):=by
 have h1:=h.i1;unfold PlC.stepS;rw[YaY,YaV (by simp;omega),YaR,List.getElem?_range (by omega)];rfl
theorem ZjE{i L:Nat}(h:i%L+1<L):(i+1)%L=i%L+1/\(i+1)/L=i/L:=by
 have h1:=Nat.div_add_mod i L;have h2:i+1=(i%L+1)+L*(i/L):=by omega
 rw[h2];exact⟨by rw[Nat.add_mul_mod_self_left,Nat.mod_eq_of_lt h],by rw[Nat.add_mul_div_left _ _ (by omega),Nat.div_eq_of_lt h,Nat.zero_add]⟩
theorem ZjF{c:PlC}{B x i:Nat}(h:c.kdN B x i=2):∃k j b,(c.stepS B)[i%(c.stepS B).length]?=some (3,k,j,b)/\b<(c.chk j (c.sq x k)).length:=by
 unfold PlC.kdN at h
 split at h
 ·rename_i s hs
  obtain⟨kd,k,j,b⟩:=s;unfold PlC.kdS at h;dsimp only at h
  split at h
  ·rename_i e
   subst e
   split at h
   ·rename_i hb
    exact⟨k,j,b,hs,hb⟩
   ·cases h
  ·split at h
   ·split at h<;>cases h
   ·cases h
 ·cases h
theorem Zla{c:PlC}{B x i:Nat}(h:c.kdN B x i=3):∃k j b,(c.stepS B)[i%(c.stepS B).length]?=some (4,k,j,b)/\b<(c.chk j (c.rq x k)).length:=by
 unfold PlC.kdN at h
 split at h
 ·rename_i s hs
  obtain⟨kd,k,j,b⟩:=s;unfold PlC.kdS at h;dsimp only at h
  split at h
  ·split at h<;>cases h
  ·split at h
   ·rename_i e
    subst e
    split at h
    ·rename_i hb
     exact⟨k,j,b,hs,hb⟩
    ·cases h
   ·cases h
 ·cases h
theorem ZtD{c:PlC}(h:c.Ok)(B x i:Nat):c.kdN B x i=2↔c.kdN B ((x+1)%c.m) (i+1)=3:=by
 constructor
 ·intro h2;obtain⟨k,j,b,hs,hb⟩:=ZjF h2;have h3:=(Zfc c B).1 _ k j b hs;have h4:=ZbJ h3;unfold PlC.kdN;rw[(ZjE h4).1,h3];dsimp only;unfold PlC.kdS;dsimp only;rw[if_neg (by decide),if_pos rfl,ZtC c h.m1,if_pos hb]
 ·intro h2;obtain⟨k,j,b,hs,hb⟩:=Zla h2;obtain⟨q',e1,e2⟩:=(Zfc c B).2 _ k j b hs;have h4:=ZbJ hs;have hL:=Zk9 c B;have h5:i%(c.stepS B).length=q':=by
   by_cases e:i%(c.stepS B).length+1<(c.stepS B).length
   ·have:=(ZjE e).1;omega
   ·have h6:=Nat.mod_lt i hL;have h7:i%(c.stepS B).length+1=(c.stepS B).length:=by omega
    have h8:=Nat.div_add_mod i (c.stepS B).length;have h9:i+1=(c.stepS B).length*(i/(c.stepS B).length+1):=by rw[Nat.mul_add,Nat.mul_one];omega
    rw[h9,Nat.mul_mod_right] at e1;omega
  unfold PlC.kdN;rw[h5,e2];dsimp only;unfold PlC.kdS;dsimp only;rw[if_pos rfl,<-ZtC c h.m1,if_pos hb]
theorem ZnX{c:PlC}(h:c.Ok)(B x:Nat):c.kdN B x 0=1:=by
 unfold PlC.kdN;rw[Nat.zero_mod,Zg8 h B];rfl
theorem Zvr{c:PlC}(B x y i:Nat)(h:c.kdN B x i=2):c.kdN B y (i+1)≠2:=by
 obtain⟨k,j,b,hs,hb⟩:=ZjF h;have h3:=(Zfc c B).1 _ k j b hs;have h4:=ZbJ h3;intro h2;obtain⟨k',j',b',hs',-⟩:=ZjF h2;rw[(ZjE h4).1,h3] at hs'
 cases hs'
theorem Zvs{c:PlC}(hm:c.m=1)(B x i:Nat):c.kdN B x i≠2:=by
 intro h;obtain⟨k,j,b,hs,-⟩:=ZjF h;have:=Zpb c B (YaL hs) (.inl rfl);dsimp only at this;omega
section
open Go.RowKit
def ZjG(s:MS):Bool:=decide (s.its.length<=s.nx)
def ZdK(mss:List MS):Bool:=mss.all ZjG
theorem ZiE{mss:List MS}{n:Nat}(hl:mss.length=n)(h:∀j s,j<n->mss[j]?=some s->ZjG s=true):ZdK mss=true:=by
 unfold ZdK;rw[List.all_eq_true];intro s hs;obtain⟨j,hj⟩:=List.getElem?_of_mem hs;exact h j s (by rw[<-hl];exact(YaG.1 hj).1) hj
theorem ZmQ{mss:List MS}{j:Nat}{s:MS}(h:mss[j]?=some s)(hs:ZjG s=false):ZdK mss=false:=by
 cases hd:ZdK mss with
 |false=>rfl
 |true=>
  unfold ZdK at hd;rw[List.all_eq_true] at hd;have:=hd s (YaL h);rw[hs] at this
  cases this
theorem ZbK{own:Nat->Nat}{w:World}{xb:Nat}{I:InC}{mbs lbs:List Nat}{mss:List MS}{lss:List LS}{AW:Option Addr}{cW:Nat}{AL:Option Addr}{cL cnt:Nat}(h:Zao own w xb I mbs lbs mss lss AW cW AL cL cnt)(n:Nat)(hn:mbs.length=n)(hn64:n<=64) :
  Calls prog 33 #[.pointer (some ⟨xb,0,none⟩)] w fun e w'=>e=.returned (.bool (ZdK mss))/\Bz0 w w':=by
 have HW:=hid h;have HN:=hid hn;have x0:=h.blk.cell 0;have xl:=h.blk.lt;have hw:=h.wrow;rw[hn] at hw x0;have HR:=hid hw;clear h hn hw
 go_enter func33,ntmps33
 go_wp2_with fail;clear x0 xl
 go_loopw [14] (fun v wr=>∃i:Nat,i<=n/\v=.int .i64 i/\Hid (∀j s,j<i->mss[j]?=some s->ZjG s=true)/\Bz0 w wr) (fun v _=>n-(intOf v).toNat)
 case atStart=>exact⟨0,by omega,rfl,hid (fun j s h=>by omega),bR0 _ _⟩
 case round=>
  obtain⟨i,hi,rfl,hd,hb⟩:=hrel
  by_cases hlt:i<n
  ·obtain⟨b,hmb⟩:∃b,mbs[i]?=some b:=⟨_,YaA (by rw[HN.out];exact hlt)⟩;obtain⟨s,hs⟩:∃s,mss[i]?=some s:=⟨_,YaA (by rw[HW.out.parts.lm,HN.out];exact hlt)⟩;obtain⟨g,rfl,lg,cg⟩:=ZnT (Zac HR.out hb) hmb hlt;obtain⟨F,a,hM,-,-⟩:=(HW.out.below (own':=own) hb (fun _ _=>rfl)).parts.mach i b s hmb hs;have hme:=Zpa b;have HM:=hid hM;have HS:=hid hs;have HB:=hid hb;have r1:(0:Int)<=(i:Int):=by omega
   have r2:(i:Int)<(n:Int):=by omega
   clear hM hs hmb hb
   by_cases hdn:s.its.length<=s.nx
   ·have HC:=hid (Ze8 F b (I.mc i) s a wr HM.out hdn);have HD:Hid (ZjG s=true):=hid (YaJ hdn);clear hdn;go_wp2_with fail;((with_reducible refine HC.out.mono ?_);rintro e w1 ⟨rfl,hb1⟩);have HB1:=hid (bT0 HB.out hb1);clear hb1;go_wp2_with fail
    go_roundw
    case rel=>
     refine⟨i+1,by omega,by go_num,hid (fun j s' hj hs'=>?_),HB1.out.alloc HB1.out.size _⟩
     by_cases hji:j<i
     ·exact hd.out j s' hji hs'
     ·obtain rfl:j=i:=by omega
      rw[HS.out] at hs';injection hs' with hs'
      rw[<-hs'];exact HD.out
    case measure=>simp[intOf];omega
   ·obtain⟨⟨⟨k1,t,u⟩,⟨⟨sd,ad⟩,⟨j1,j2,j3,j4,j5⟩,⟨j6,j7⟩⟩⟩,hx⟩:∃x,s.its[s.nx]?=some x:=⟨_,YaA (by omega)⟩;have HC:=hid (Ze7 F b (I.mc i) s a k1 t u sd ad j1 j2 j3 j4 j5 j6 j7 wr HM.out hx);have HD:Hid (ZjG s=false):=hid (YaI hdn);clear hdn hx;go_wp2_with fail;((with_reducible refine HC.out.mono ?_);rintro e w1 ⟨rfl,hb1⟩);have HB1:=hid (bT0 HB.out hb1);clear hb1;go_wp2_with fail;go_ret;exact⟨by rw[ZmQ HS.out HD.out];rfl,HB1.out.alloc HB1.out.size _⟩
  ·obtain rfl:i=n:=by omega
   have HB:=hid hb;clear hb;go_wp2_with fail;go_ret;exact⟨by rw[ZiE (by rw[HW.out.parts.lm];exact HN.out) hd.out];rfl,HB.out⟩
structure WS where
 mss:List MS
 lss:List LS
 cnt:Nat
structure Zgf(own0:Nat->Nat)(w0:World)(own:Nat->Nat)(w:World)(xb:Nat)(I:InC)(mbs lbs:List Nat)(s:WS)(AW:Option Addr)(cW:Nat)(AL:Option Addr)(cL:Nat):Prop where
 wld:Zao own w xb I mbs lbs s.mss s.lss AW cW AL cL s.cnt
 new:∀i,own i≠0->own0 i≠0\/w0.heap.size<=i
 but:But (fun i=>own0 i≠0) w0 w
theorem Zgf.step{own0 own own':Nat->Nat}{w0 w w':World}{xb:Nat}{I:InC}{mbs lbs:List Nat}{s s':WS}{AW:Option Addr}{cW:Nat}{AL:Option Addr}{cL:Nat}(h:Zgf own0 w0 own w xb I mbs lbs s AW cW AL cL)(hw:Zao own' w' xb I mbs lbs s'.mss s'.lss AW cW AL cL s'.cnt)(hn:∀i,own' i≠0->own i≠0\/w.heap.size<=i)(hb:But (fun i=>own i≠0) w w'):Zgf own0 w0 own' w' xb I mbs lbs s' AW cW AL cL:=
 ⟨hw,fun i hi=>by
  rcases hn i hi with h1|h1
  ·exact h.new i h1
  ·exact .inr (YaH h.but.size h1),Zg4 (S:=fun i=>own0 i≠0) h.but hb (fun i hi h1=>by
   rcases h.new i h1 with h2|h2
   ·exact h2
   ·omega)⟩
theorem Zgf.below{own0 own:Nat->Nat}{w0 w w':World}{xb:Nat}{I:InC}{mbs lbs:List Nat}{s:WS}{AW:Option Addr}{cW:Nat}{AL:Option Addr}{cL:Nat}(h:Zgf own0 w0 own w xb I mbs lbs s AW cW AL cL)(hb:Below w.heap.size w w'):Zgf own0 w0 own w' xb I mbs lbs s AW cW AL cL:=
 h.step (h.wld.below hb (fun _ _=>rfl)) (fun i hi=>.inl hi) (But.of_below _ hb)
def Zyl(own0:Nat->Nat)(w0:World)(xb:Nat)(I:InC)(mbs lbs:List Nat)(σ:Nat->WS)(AW:Option Addr)(cW:Nat)(AL:Option Addr)(cL N most:Nat)(a':Act)(w':World):Prop:=∃(p:Nat) (own:Nat->Nat) (u6 u7 u8 u9 u10 u11 u12 u13 u14 u15 u16 u17 u18 u19 u20 u21 u22 u23 u24 u25 u26:Value),p<=N/\Zgf own0 w0 own w' xb I mbs lbs (σ p) AW cW AL cL/\a'={ tmps:=#[.pointer (some ⟨xb,0,none⟩),.int .i64 most,undef,undef,.int .i64 p,.bool false,u6,u7,u8,u9,u10,u11,u12,u13,u14,u15,u16,u17,u18,u19,u20,u21,u22,u23,u24,u25,u26],defers:=[] }
theorem ZdL{own0:Nat->Nat}{w:World}{xb:Nat}{I:InC}{mbs lbs:List Nat}{AW:Option Addr}{cW:Nat}{AL:Option Addr}{cL:Nat}(σ:Nat->WS)(N most n:Nat)(h:Zao own0 w xb I mbs lbs (σ 0).mss (σ 0).lss AW cW AL cL (σ 0).cnt)(hn:mbs.length=n)(hn1:1<=n)(hn64:n<=64)(hNm:N<=most)(hm9:most<=1000000000)(hd:∀p,p<N->ZdK (σ p).mss=false)(hdN:ZdK (σ N).mss=true)
  (hp:∀p own W,p<N->Zao own W xb I mbs lbs (σ p).mss (σ p).lss AW cW AL cL (σ p).cnt->Calls prog 71 #[.pointer (some ⟨xb,0,none⟩),.int .i64 (p%n:Nat)] W fun e w'=>∃r,e=.returned (.bool r)/\∃own',Zao own' w' xb I mbs lbs (σ (p+1)).mss (σ (p+1)).lss AW cW AL cL (σ (p+1)).cnt/\(∀i,own' i≠0->own i≠0\/W.heap.size<=i)/\But (fun i=>own i≠0) W w') :
  Calls prog 19 #[.pointer (some ⟨xb,0,none⟩),.int .i64 most] w fun e w'=>e=.returned (.tuple #[.int .i64 N,.bool true])/\∃own,Zgf own0 w own w' xb I mbs lbs (σ N) AW cW AL cL:=by
 have HW:=hid h;have HN:=hid hn;have HD:=hid hd;have HDN:=hid hdN;have HP:=hid hp;clear h hn hd hdN hp
 go_enter func19,ntmps19
 go_wp2_with fail;refine wp_scope_jumps 0 (Zyl own0 w xb I mbs lbs σ AW cW AL cL N most) (fun a' _=>N-(intOf (a'.tmps.getD 4 undef)).toNat) rfl ?_ ?_
 ·go_wp2_with fail
  go_step3
  have hR:Zgf own0 w own0 w xb I mbs lbs (σ 0) AW cW AL cL:=⟨HW.out,fun i hi=>.inl hi,But.refl _ _⟩;obtain⟨p,hp0⟩:∃p,p=0:=⟨0,rfl⟩;obtain⟨own,hown⟩:∃own,own=own0:=⟨_,rfl⟩;have hpN:p<=N:=by omega
  have hR':Zgf own0 w own w xb I mbs lbs (σ p) AW cW AL cL:=by rw[hown,hp0];exact hR
  rw[show (Value.int IntKind.i64 0)=.int .i64 (p:Int) by rw[hp0];rfl];clear hR;have hR:=hR';clear hR' hp0 hown;have HRr:=hid hR;have HDO:=hid (ZbK hR.wld n HN.out hn64);clear hR;go_wp2_with fail;((with_reducible refine HDO.out.mono ?_);rintro e w1 ⟨rfl,hb1⟩);have HR1:=hid (HRr.out.below hb1);clear hb1 HDO
  rcases Nat.lt_or_eq_of_le hpN with hlt|heq
  ·have e1:=HD.out p hlt;rw[e1];have e2:decide ((most:Int)<=(p:Int))=false:=YaI (by omega);have e3:decide (most<=p)=false:=YaI (by omega);have x0:w1.cell? ⟨xb,0,none⟩=some (.slice AW n cW):=by have:=HR1.out.wld.blk.cell 0;rw[HN.out] at this;exact this
   have xl:=HR1.out.wld.blk.lt;obtain⟨y,hy⟩:∃y,p%n=y:=⟨_,rfl⟩;have hm:(p:Int)%(n:Int)=(y:Int):=by rw[<-hy];exact(Int.natCast_emod p n).symm
   have nz:¬(n:Int)=0:=by omega
   have HPK:=hid (HP.out p own w1 hlt HR1.out.wld);rw[hy] at HPK;clear e1 hy;go_wp2_with fail;((with_reducible refine HPK.out.mono ?_);rintro e w2 ⟨r,rfl,own',hW2,hn2,hb2⟩);have HR2:=hid (HR1.out.step (s':=σ (p+1)) hW2 hn2 hb2);obtain⟨p2,hp2⟩:∃p2,p+1=p2:=⟨_,rfl⟩;have hwp:IntKind.i64.wrap ((p:Int)+1)=(p2:Int):=by rw[show (p:Int)+1=(p2:Int) by omega];exact IntWalk.i64_in _ (by omega)
   have HP2:=hid hp2;clear hW2 hn2 hb2 hp2 x0 xl HPK;go_wp2_with fail
   go_step3
   refine⟨rfl,?_⟩;have hr:=HR2.out;rw[HP2.out] at hr;exact⟨p2,own',_,_,_,_,_,_,_,_,_,_,_,_,_,_,_,_,_,_,_,_,_,by have:=HP2.out;omega,hr,rfl⟩
  ·subst heq;rw[HDN.out];have HDO2:=hid (ZbK HR1.out.wld n HN.out hn64);go_wp2_with fail;((with_reducible refine HDO2.out.mono ?_);rintro e w2 ⟨rfl,hb2⟩);rw[HDN.out];have HR2:=hid (HR1.out.below hb2);clear hb2;go_wp2_with fail;simp only[Exit.jump]
   go_ret2
   exact⟨rfl,own,HR2.out⟩
 ·rintro a' wr ⟨p,own,u6,u7,u8,u9,u10,u11,u12,u13,u14,u15,u16,u17,u18,u19,u20,u21,u22,u23,u24,u25,u26,hpN,hR,rfl⟩;have HRr:=hid hR;have HDO:=hid (ZbK hR.wld n HN.out hn64);clear hR;go_wp2_with fail;((with_reducible refine HDO.out.mono ?_);rintro e w1 ⟨rfl,hb1⟩);have HR1:=hid (HRr.out.below hb1);clear hb1 HDO
  rcases Nat.lt_or_eq_of_le hpN with hlt|heq
  ·have e1:=HD.out p hlt;rw[e1];have e2:decide ((most:Int)<=(p:Int))=false:=YaI (by omega);have e3:decide (most<=p)=false:=YaI (by omega);have x0:w1.cell? ⟨xb,0,none⟩=some (.slice AW n cW):=by have:=HR1.out.wld.blk.cell 0;rw[HN.out] at this;exact this
   have xl:=HR1.out.wld.blk.lt;obtain⟨y,hy⟩:∃y,p%n=y:=⟨_,rfl⟩;have hm:(p:Int)%(n:Int)=(y:Int):=by rw[<-hy];exact(Int.natCast_emod p n).symm
   have nz:¬(n:Int)=0:=by omega
   have HPK:=hid (HP.out p own w1 hlt HR1.out.wld);rw[hy] at HPK;clear e1 hy;go_wp2_with fail;((with_reducible refine HPK.out.mono ?_);rintro e w2 ⟨r,rfl,own',hW2,hn2,hb2⟩);have HR2:=hid (HR1.out.step (s':=σ (p+1)) hW2 hn2 hb2);obtain⟨p2,hp2⟩:∃p2,p+1=p2:=⟨_,rfl⟩;have hwp:IntKind.i64.wrap ((p:Int)+1)=(p2:Int):=by rw[show (p:Int)+1=(p2:Int) by omega];exact IntWalk.i64_in _ (by omega)
   have HP2:=hid hp2;clear hW2 hn2 hb2 hp2 x0 xl HPK;go_wp2_with fail
   go_step3
   refine⟨rfl,?_,?_⟩
   rotate_left
   ·simp[intOf];have:=HP2.out;omega
   have hr:=HR2.out;rw[HP2.out] at hr;exact⟨p2,own',_,_,_,_,_,_,_,_,_,_,_,_,_,_,_,_,_,_,_,_,_,by have:=HP2.out;omega,hr,rfl⟩
  ·subst heq;rw[HDN.out];have HDO2:=hid (ZbK HR1.out.wld n HN.out hn64);go_wp2_with fail;((with_reducible refine HDO2.out.mono ?_);rintro e w2 ⟨rfl,hb2⟩);rw[HDN.out];have HR2:=hid (HR1.out.below hb2);clear hb2;go_wp2_with fail;simp only[Exit.jump]
   go_ret2
   exact⟨rfl,own,HR2.out⟩
def ZmR(w:World)(NP:Nat)(r:List (List Int×List Int))(e:Ending)(w':World):Prop:=
 ∃A c l,l.length=r.length/\e=.returned (.slice A r.length c)/\w'.ownsRow w.heap.size 92 2 (.slice A r.length c) r.length (stv NP NP l)/\ZcX w' w.heap.size NP NP l (Zj0 r)/\Bz0 w w'
theorem Zlb(F:Nat->Prop)(mb:Nat)(K:MC)(s:MS)(a:MA)(w:World)(hK:K.Ok)(h:ZaQ F w mb K s a)(hlen:∀i,i<s.rcd.length->(Zj0 s.rcd (i+1)).1.length=K.NP/\(Zj0 s.rcd (i+1)).2.length=K.NP) :
  Calls prog 56 #[.pointer (some ⟨mb,0,none⟩)] w (ZmR w K.NP s.rcd):=by
 obtain⟨n,hn⟩:∃n,s.rcd.length=n:=⟨_,rfl⟩;have hrl:=h.rl;have m14:w.cell? ⟨mb,14,none⟩=some (.slice a.AR n a.cR):=by rw[<-hn];exact h.blk.cell 14
 have ml:=h.blk.lt;have hR:=Rd.of_own h.rrow;have hS:=h.fz.here.rsr;have hSL:=h.fz.here.rsl;rw[hn] at hR hSL hlen hrl;have HR:=hid hR;have HS:=hid hS;have HSL:=hid hSL;have HN:=hid hn;have HLEN:=hid hlen;have HNP:=hid hK.np;clear h hR hS hSL hn hlen hK
 go_enter func56,ntmps56
 go_wp2_with fail;clear m14 ml
 go_loopw [3,13] (fun o v wr=>∃(i:Nat) (A:Option Addr) (c:Nat) (l:List StS),i<=n/\o=.slice A i c/\v=.int .i64 i/\wr.ownsRow w.heap.size 92 2 (.slice A i c) i (stv K.NP K.NP l)/\l.length=i/\ZcX wr w.heap.size K.NP K.NP l (Zj0 s.rcd)/\Bz0 w wr) (fun _ v _=>n-(intOf v).toNat)
 case atStart=>exact⟨0,none,0,[],by omega,rfl,rfl,World.ownsRow_nil _ _ _ _,rfl,fun i s h=>by simp at h,bR0 _ _⟩
 case round=>
  obtain⟨i,A,c,l,hi,rfl,rfl,hz,hll,hos,hb⟩:=hrel
  by_cases hlt:i<n
  ·obtain⟨⟨A1,c1,A2,c2⟩,hs4⟩:∃s,a.rs[i]?=some s:=⟨_,YaA (by rw[HSL.out];exact hlt)⟩;obtain⟨b5,o5,hA5,l5,q0,q1⟩:=ZgV (HR.out.below hb) hs4 hlt;dsimp only at q0 q1;obtain⟨h1,h2⟩:=HS.out i _ hs4;obtain⟨e1,e2⟩:=HLEN.out i hlt;have HZ:=hid hz;have HLL:=hid hll;have HOS:=hid hos;have HB:=hid hb;have HX1:=hid h1;have HX2:=hid h2;have HE1:=hid e1;have HE2:=hid e2;have HLT:=hid hlt;have HAR:=hid hA5;have r1:(0:Int)<=(i:Int):=by omega
   have r2:(i:Int)<(n:Int):=by omega
   clear hz hll hos hb h1 h2 e1 e2 hs4 hlt hA5;rw[HAR.out];go_wp2_with fail;have hwr:Below w.heap.size w (wr.alloc (.cells #[.slice A1 K.NP c1,.slice A2 K.NP c2] 92)):=HB.out.alloc HB.out.size _;have ho1:=ZcX.below (w':=wr.alloc (.cells #[.slice A1 K.NP c1,.slice A2 K.NP c2] 92)) HOS.out ((bR0 wr.heap.size wr).alloc (YaF _) _);have hz1:(wr.alloc (.cells #[.slice A1 K.NP c1,.slice A2 K.NP c2] 92)).ownsRow w.heap.size 92 2 (.slice A i c) i (stv K.NP K.NP l):=Zac HZ.out ((bR0 wr.heap.size wr).alloc (YaF _) _);obtain⟨w1,hw1⟩:∃w1,wr.alloc (.cells #[.slice A1 K.NP c1,.slice A2 K.NP c2] 92)=w1:=⟨_,rfl⟩;rw[hw1] at hwr ho1 hz1 ⊢;have HC:=hid (ZdC A1 A2 K.NP K.NP c1 c2 _ _ w1 HE1.out HE2.out (Rd.of_own (Zac HX1.out hwr)) (Rd.of_own (Zac HX2.out hwr)) (by have:=HNP.out;omega) (by have:=HNP.out;omega));have HW1:=hid hwr;have HO1:=hid ho1;have HZ1:=hid hz1;clear hw1 hwr ho1 hz1;((with_reducible refine HC.out.mono ?_);rintro e w2 ⟨AP,cP,AM,cM,rfl,hp2,hm2,hpm,hb2⟩);have hb2':Below w1.heap.size w1 w2:=hb2;have hp2':w2.ownsRow w1.heap.size 2 1 (.slice AP K.NP cP) K.NP (iv (Zj0 s.rcd (i+1)).1):=hp2;have hm2':w2.ownsRow w1.heap.size 2 1 (.slice AM K.NP cM) K.NP (iv (Zj0 s.rcd (i+1)).2):=hm2;have HW2:=hid (bT0 HW1.out hb2');have HO2:=hid (HO1.out.below hb2');have HZ2:=hid (Zac HZ1.out hb2');have HP2:=hid (Zae hp2' HW1.out.size);have HQ2:=hid (Zae hm2' HW1.out.size);clear hp2 hm2 hpm hb2 hb2' hp2' hm2' HC
   go_wp2_with (at_builtin;go_must (refine Zaj Zrm rfl _ _ rfl w.heap.size (.slice A i c) i (stv K.NP K.NP l) rfl HZ2.out #[.slice AP K.NP cP,.slice AM K.NP cM] w2.heap.size rfl rfl rfl (by intro u hu;simp at hu;rcases hu with rfl|rfl<;>rfl) (by unfold maxLen;omega) (by omega) HW2.out.size ?_);go_must (intro A' c' wa hown' hb' hgr' hat'))
   have hlt:=HLT.out;refine⟨⟨i+1,A',c',l++[(AP,cP,AM,cM)],by omega,rfl,rfl,?_,by rw[YaS,HLL.out];rfl,?_,HW2.out.trans hb'⟩,?_⟩
   ·have:stv K.NP K.NP (l++[(AP,cP,AM,cM)])=stv K.NP K.NP l++#[Value.slice AP K.NP cP,Value.slice AM K.NP cM].toList:=by simp[stv]
    rw[this];exact hown'
   ·refine ZcX.snoc (HO2.out.row HZ2.out (by decide) hgr') ?_ ?_
    ·rw[HLL.out];exact HP2.out.kept hgr' (ZbB HP2.out HZ2.out (by decide))
    ·rw[HLL.out];exact HQ2.out.kept hgr' (ZbB HQ2.out HZ2.out (by decide))
   ·simp[intOf];omega
  ·obtain rfl:i=n:=by omega
   have HZ:=hid hz;have HLL:=hid hll;have HOS:=hid hos;have HB:=hid hb;have r2:¬(i:Int)<(i:Int):=by omega
   clear hz hll hos hb hlt;go_wp2_with fail;go_ret;exact⟨A,c,l,by rw[HLL.out,HN.out],by rw[HN.out];rfl,by rw[HN.out];exact HZ.out,HOS.out,HB.out⟩
theorem Zfd{own:Nat->Nat}{w:World}{xb:Nat}{I:InC}{mbs lbs:List Nat}{mss:List MS}{lss:List LS}{AW:Option Addr}{cW:Nat}{AL:Option Addr}{cL cnt:Nat}(h:Zao own w xb I mbs lbs mss lss AW cW AL cL cnt)(hO:I.Ok)(n x:Nat)(s:MS)(hn:mbs.length=n)(hl:lbs.length=n)(hx:x<n)(hn64:n<=64)(hxw:(x:Int)<I.c.wk)(hs:mss[x]?=some s)(hlen:∀i,i<s.rcd.length->(Zj0 s.rcd (i+1)).1.length=(I.mc x).NP/\(Zj0 s.rcd (i+1)).2.length=(I.mc x).NP) :
  Calls prog 32 #[.pointer (some ⟨xb,0,none⟩),.int .i64 x] w (ZmR w (I.mc x).NP s.rcd):=by
 obtain⟨b,hb⟩:∃b,mbs[x]?=some b:=⟨_,YaA (by omega)⟩;obtain⟨li,hli⟩:∃b,lbs[(x+n-1)%n]?=some b:=⟨_,YaA (by rw[hl];exact Nat.mod_lt _ (by omega))⟩;obtain⟨lo,hlo⟩:∃b,lbs[x]?=some b:=⟨_,YaA (by omega)⟩;have HAT:=hid (Zex h n x b li lo hn hl hx hn64 hb hli hlo);have HP:=hid (h.parts.mach x b s hb hs);have HK:=hid (hO.mc hxw);have HLEN:=hid hlen;have hme:=Zge b;obtain⟨K,hK⟩:∃K,I.mc x=K:=⟨_,rfl⟩;rw[hK] at HP HK HLEN ⊢;clear h hO hn hl hx hn64 hxw hs hb hli hlo hlen hK
 go_enter func32,ntmps32
 go_wp2_with fail;((with_reducible refine HAT.out.mono ?_);rintro e w1 ⟨rfl,hb1⟩);have HB1:=hid hb1;obtain⟨F,a,hM,-,-⟩:=HP.out.step hb1.size (fun i hi _=>hb1.block i hi);have HC:=hid (Zlb F b K s a w1 HK.out hM HLEN.out);clear hb1 hM;go_wp2_with fail;((with_reducible refine HC.out.mono ?_);rintro e w2 ⟨A,c,l,hll,rfl,ho,hos,hb2⟩);have HO:=hid ho;have HOS:=hid hos;have HB2:=hid hb2;have HLL:=hid hll;clear ho hos hb2 hll hme;go_wp2_with fail;go_ret;exact⟨A,c,l,HLL.out,rfl,Zae HO.out HB1.out.size,HOS.out.base HB1.out.size,bT0 HB1.out HB2.out⟩
end
