/- Lemmas. -/
import Derived.Test.YtkmaeipoaoikpaaGreatEC26
namespace Go.Proofs.YtkmaeipoaoikpaaGreat
set_option linter.all false
set_option maxRecDepth 100000
set_option maxHeartbeats 8000000
open Lib (hid)
open Go.RowKit
open Tryz
def ZvC(I:InC)(w:World)(e:Ending)(w':World):Prop:=∃xb,e=.returned (.tuple #[.pointer (some ⟨xb,0,none⟩),.int .i64 0])/\Zvc w.heap.size w' xb I (Ze4 I I.c.wk.toNat) (Ze5 I.c.wk.toNat) 0/\Bz0 w w'
theorem Zls(I:InC)(w:World)(hI:ZmD w I)(hO:I.Ok) :
  Calls prog 12 #[inV I.A I.n I.cap I.c I.S I.m I.cS I.AP I.P I.cP I.AD I.D I.cD] w (ZvC I w):=by
 have HN:=hid hO.nums;have HO:=hid hO;have m60:=hO.m60;have hK:=hO.mc (x:=0) (by have:=hO.nums.wk;omega);have hn16:I.n<=16:=hK.n16;have hP60:=hO.P60;have hD4:=hO.D4;have HCI:=hid (fun W (i:ZmD W I)=>Ze1 I.A I.n I.cap I.l I.c I.S I.m I.cS (Zf5 I.N I.M I.es) I.AP I.P I.cP I.AD I.D I.cD W i.hl i.rl i.cap (by omega) (by rw[ZdC];exact i.el) (by rw[ZnL];exact i.re) (by omega) (by omega) (by omega));have HI:=hid hI;clear hI hO hK
 go_enter func12,ntmps12
 go_wp2_with fail;obtain⟨w1,hw1⟩:∃w1,w.alloc (.cells (inC I.A I.n I.cap I.c I.S I.m I.cS I.AP I.P I.cP I.AD I.D I.cD) 29)=w1:=⟨_,rfl⟩;obtain⟨gin,hgin⟩:∃g,w.heap.size=g:=⟨_,rfl⟩;have hb1:Below w.heap.size w w1:=by rw[<-hw1];exact bA0 _
 have hi1:Blk w1 gin 29 (inC I.A I.n I.cap I.c I.S I.m I.cS I.AP I.P I.cP I.AD I.D I.cD):=by rw[<-hw1];exact Blk.new' _ _ hgin
 have HW1:=hid hw1;have HGI:=hid hgin;have HB1:=hid hb1;have HI1:=hid hi1;clear hw1 hgin hb1 hi1;rw[HW1.out,HGI.out];((with_reducible refine(HCI.out w1 (HI.out.below HB1.out)).mono ?_);rintro e w2 ⟨cd,rfl,hcd,hb2⟩);obtain rfl:cd=0:=hcd.2 HO.out.ok;have HB2:=hid (bT0 HB1.out hb2);have HI2:=hid (HI1.out.kept hb2);have c4:=cv4 HI2.out;have cl:=HI2.out.lt;clear hcd hb2 HCI;go_wp2_with fail;obtain⟨w3,hw3⟩:∃w3,w2.alloc (.cells #[.slice none 0 0,.slice none 0 0,.int .i64 0] 125)=w3:=⟨_,rfl⟩;obtain⟨xb,hxb⟩:∃g,w2.heap.size=g:=⟨_,rfl⟩;have hb3:Below w2.heap.size w2 w3:=by rw[<-hw3];exact bA0 _
 have hx3:Blk w3 xb 125 (ZgX none 0 0 none 0 0 0):=by rw[<-hw3];exact Blk.new' _ _ hxb
 have HXW:Hid (w.heap.size<=xb):=hid (by rw[<-hxb];exact HB2.out.size);have HGX:Hid (gin<w2.heap.size/\xb=w2.heap.size):=hid ⟨HI2.out.lt,hxb.symm⟩;rw[hw3,hxb];have HB3:=hid (bT0 HB2.out hb3);have HI3:=hid (HI2.out.kept hb3);have HX3:=hid hx3;clear hw3 hxb hb3 hx3 c4 cl
 go_loopw [19] (fun v wr=>∃(k:Nat) (own:Nat->Nat) (mbs lbs:List Nat) (AW:Option Addr) (cW:Nat) (AL:Option Addr) (cL:Nat),(k:Int)<=I.c.wk/\v=.int .i64 k/\Zar own wr xb I mbs lbs (Ze4 I k) (Ze5 k) AW cW AL cL 0/\mbs.length=k/\lbs.length=k/\(∀j,own j≠0->w.heap.size<=j)/\Blk wr gin 29 (inC I.A I.n I.cap I.c I.S I.m I.cS I.AP I.P I.cP I.AD I.D I.cD)/\Bz0 w wr) (fun v _=>I.c.wk.toNat-(intOf v).toNat)
 case atStart=>
  refine⟨0,fun j=>if j=xb then 1 else 0,[],[],none,0,none,0,by have:=HN.out.wk;omega,rfl,⟨HX3.out,if_pos rfl,World.ownsRow_nil _ _ _ _,World.ownsRow_nil _ _ _ _,fun g hg=>by simp[ZaX,Value.ownBlock] at hg,fun g hg=>by simp[ZaX,Value.ownBlock] at hg,⟨rfl,rfl,fun i b s h=>by simp at h,fun i b s h=>by simp at h⟩⟩,rfl,rfl,fun j hj=>?_,HI3.out,HB3.out⟩
  by_cases e:j=xb
  ·rw[e];exact HXW.out
  ·simp[e] at hj
 case round=>
  obtain⟨k,own,mbs,lbs,AW,cW,AL,cL,hk,rfl,hW,hml,hll,hown,hg,hb⟩:=hrel;have HG:=hid hg;have HWR:=hid hW;have HML:=hid hml;have HLL:=hid hll;have HOWN:=hid hown;have HBR:=hid hb;clear hg hW hml hll hown hb
  by_cases hlt:(k:Int)<I.c.wk
  ·have hk64:k<64:=by have:=HN.out.wk;omega
   obtain⟨c0,c1,c2,c3,c4,c5,c6,c7,c8,c9,c10,c11,c12,c13,c14⟩:=cl15 HG.out;have cl:=HG.out.lt;go_wp2_with fail;((with_reducible refine(ZmF I k wr (HI.out.below HBR.out) HO.out hlt).mono ?_);rintro e w4 ⟨mb,rfl,hm,hb4⟩);have hW4:=HWR.out.below (own':=lab own wr.heap.size (2*k+2)) hb4 (ZbV _ _ _);have HW4:=hid hW4;have HOWN1:=hid (Zjy (k:=2*k+2) HOWN.out HBR.out.size);have HP4:=hid (hW4.parts.addM HML.out (hm.mono (T:=fun j=>lab own wr.heap.size (2*k+2) j=2*k+2) (fun j hj h=>Zfx _ _ _ h)));have HG4:=hid (HG.out.kept hb4);have HB4:=hid (bT0 HBR.out hb4);have HB4r:=hid hb4;clear hm hb4 hW4 HG;have x0:=HW4.out.blk.cell 0;have xl:=HW4.out.blk.lt
   go_wp2_with (at_builtin;go_must (refine Zaj Zxu rfl _ _ rfl 0 (.slice AW mbs.length cW) mbs.length (mbs.map ifV) rfl HW4.out.wrow #[ifV mb] w4.heap.size rfl rfl rfl (by intro u hu;simp at hu;subst hu;rfl) (by unfold maxLen;have:=HML.out;omega) (by have:=HML.out;omega) (Nat.zero_le _) ?_);go_must (intro A' c' wa hown' hb' hgr' hat';(have hK:=HW4.out.blk.other HW4.out.wrow hgr' (by decide));(have v0:=hK.cell 0);(have f0:=hK.frozen 0);(have lk:=hK.lt);(have HK:=hid hK);(have HO2:=hid hown');(have HGR:=hid hgr');(have HAT:=hid hat');clear hK hown' hb' hgr' hat' x0 xl))
   have hW5:=HW4.out.addW HP4.out HGR.out HO2.out HAT.out;have hg2:=Zak (p:=⟨xb,0,none⟩) (World.grownBy.refl wa (some xb)) (.inl rfl) (.slice A' (mbs.length+1) c');have hG5:Blk (wa.setCell ⟨xb,0,none⟩ (.slice A' (mbs.length+1) c')) gin 29 (inC I.A I.n I.cap I.c I.S I.m I.cS I.AP I.P I.cP I.AD I.D I.cD):=(HG4.out.other HW4.out.wrow HGR.out (by decide)).grown hg2 (by
    intro e;injection e with e
    have h1:=HXW.out;have h2:=HGX.out
    omega)
   have hB5:Below w.heap.size w (wa.setCell ⟨xb,0,none⟩ (.slice A' (mbs.length+1) c')):=Zai (HB4.out.grown HGR.out HB4.out.size (fun g hg=>HOWN1.out g (by rw[HW4.out.ow g ((Zaf _ _ _).symm.trans hg)];decide))) (YaH HB4.out.size HGR.out.size) hg2 HXW.out;have hz5:w4.heap.size<=(wa.setCell ⟨xb,0,none⟩ (.slice A' (mbs.length+1) c')).heap.size:=YaH HGR.out.size hg2.size;generalize hw5:wa.setCell ⟨xb,0,none⟩ (.slice A' (mbs.length+1) c')=w5 at hW5 hG5 hB5 hz5 ⊢;have HW5:=hid hW5;have HG5:=hid hG5;have HB5:=hid hB5;have HZ5:=hid hz5;clear hW5 hG5 hB5 hz5 hw5 hg2 v0 f0 lk HK HO2 HGR HAT HW4 HP4 HG4 HB4;have hca:(I.c.ca.toNat:Int)=I.c.ca:=by have:=HN.out.ca;omega
   have HLK:Hid (∀W,Calls prog 47 #[.int .i64 I.c.ca] W fun e w'=>e=.returned (.pointer (some ⟨W.heap.size,0,none⟩))/\Blk w' W.heap.size 243 (Zf4 none 0 0 I.c.ca.toNat 0 0 0)/\Bz0 W w'):=hid (fun W=>by
    have:=Zmx I.c.ca.toNat W (by have:=HN.out.ca;omega) (by have:=HN.out.ca;omega);rw[hca] at this;exact this)
   have HCA:=hid hca;clear hca;have hX5:Blk w5 xb 125 (ZgX A' (mbs.length+1) c' AL lbs.length cL 0):=by
    have:=HW5.out.blk
    rwa [YaS,List.length_singleton] at this
   have HX5:=hid hX5;clear hX5;refine Zad (fun W=>Blk W xb 125 (ZgX A' (mbs.length+1) c' AL lbs.length cL 0)/\Blk W gin 29 (inC I.A I.n I.cap I.c I.S I.m I.cS I.AP I.P I.cP I.AD I.D I.cD)) [0,1,2,3,4,5,6,7] [8,9,10] [11,12,13] (by kernel_rfl) (by kernel_rfl) (⟨HX5.out.drew,HG5.out.drew⟩) ?_;simp only[YaO,YaP,YaB,YaC];refine Zaa (.pointer (some ⟨xb,0,none⟩)) rfl (fun W hW=>?_) ?_
   ·obtain⟨hx,hy⟩:=hW;have x1:=hx.cell 1;have xl:=hx.lt;have y11:=hy.cell 11;have yl:=hy.lt;go_simp
   go_simp;refine Zaa (.pointer (some ⟨xb,0,none⟩)) rfl (fun W hW=>?_) ?_
   ·obtain⟨hx,hy⟩:=hW;have x1:=hx.cell 1;have xl:=hx.lt;have y11:=hy.cell 11;have yl:=hy.lt;go_simp
   go_simp;refine Zaa (.pointer (some ⟨xb,0,none⟩)) rfl (fun W hW=>?_) ?_
   ·obtain⟨hx,hy⟩:=hW;have x1:=hx.cell 1;have xl:=hx.lt;have y11:=hy.cell 11;have yl:=hy.lt;go_simp
   go_simp;refine Zaa (.pointer (some ⟨xb,1,none⟩)) rfl (fun W hW=>?_) ?_
   ·obtain⟨hx,hy⟩:=hW;have x1:=hx.cell 1;have xl:=hx.lt;have y11:=hy.cell 11;have yl:=hy.lt;go_simp
   go_simp;refine Zaa (.slice AL lbs.length cL) rfl (fun W hW=>?_) ?_
   ·obtain⟨hx,hy⟩:=hW;have x1:=hx.cell 1;have xl:=hx.lt;have y11:=hy.cell 11;have yl:=hy.lt;go_simp
   go_simp;refine Zaa (.pointer (some ⟨gin,0,none⟩)) rfl (fun W hW=>?_) ?_
   ·obtain⟨hx,hy⟩:=hW;have x1:=hx.cell 1;have xl:=hx.lt;have y11:=hy.cell 11;have yl:=hy.lt;go_simp
   go_simp;refine Zaa (.pointer (some ⟨gin,11,none⟩)) rfl (fun W hW=>?_) ?_
   ·obtain⟨hx,hy⟩:=hW;have x1:=hx.cell 1;have xl:=hx.lt;have y11:=hy.cell 11;have yl:=hy.lt;go_simp
   go_simp;refine Zaa (.int .i64 I.c.ca) rfl (fun W hW=>?_) ?_
   ·obtain⟨hx,hy⟩:=hW;have x1:=hx.cell 1;have xl:=hx.lt;have y11:=hy.cell 11;have yl:=hy.lt;go_simp
   go_simp;change Zah _ _ _ _ _ (_::_::_::[]) _ _;unfold Zah;go_wp2_with fail;((with_reducible refine(HLK.out _).mono ?_);rintro e w6 ⟨rfl,hl6,hb6⟩);have hb6':Below w5.heap.size w5 w6:=((Zag.start w5).call hb6).2.2;have hl6':Blk w6 w5.heap.size 243 (Zf4 none 0 0 I.c.ca.toNat 0 0 0):=hl6;have hW6:=HW5.out.below (own':=lab (lab (lab own wr.heap.size (2*k+2)) w4.heap.size 1) w5.heap.size (2*k+3)) hb6' (ZbV _ _ _);have HP6:=hid (hW6.parts.addL (l:=⟨0,0,[]⟩) HLL.out (Zo2 hl6' (by have:=HN.out.ca;omega) (by have:=HN.out.ca;omega) (Zfx _ _ _ (YaF _))));have HW6:=hid hW6;have HG6:=hid (HG5.out.kept hb6');have HX6:=hid (HX5.out.kept hb6');have HB6:=hid (bT0 HB5.out hb6');have HOW6:=hid (Zjy (k:=2*k+3) (Zjy (k:=1) HOWN1.out (YaH HBR.out.size HB4r.out.size)) HB5.out.size);clear hl6 hb6 hb6' hl6' hW6 HLK;go_wp2_with fail;refine⟨⟨HX6.out,HG6.out⟩,?_⟩;unfold Zah;change wpList _ _ _ (_::[]) _ w6;go_wp2_with fail;refine⟨⟨HX6.out.alloc _,HG6.out.alloc _⟩,?_⟩;unfold Zah;change wpList _ _ _ (_::[]) _ (w6.alloc (.cells #[ptV w5.heap.size] 126))
   go_wp2_with (at_builtin;go_must (refine Zaj Zxv rfl _ _ rfl 0 (.slice AL lbs.length cL) lbs.length (lbs.map ptV) rfl HW6.out.lrow #[ptV w5.heap.size] w6.heap.size rfl rfl rfl (by intro u hu;simp at hu;subst hu;rfl) (by unfold maxLen;have:=HLL.out;omega) (by have:=HLL.out;omega) (Nat.zero_le _) ?_);go_must (intro A2 c2 wb hown' hb' hgr' hat'))
   have HX7:=hid (HX6.out.other HW6.out.lrow hgr' (by decide));have HG7:=hid (HG6.out.other HW6.out.lrow hgr' (by decide));have HO7:=hid hown';have HGR:=hid hgr';have HAT:=hid hat';clear hown' hb' hgr' hat';refine⟨⟨HX7.out,HG7.out⟩,?_⟩;unfold Zah;change wpList _ _ _ (_::_::_::[]) _ _;have v1:=HX7.out.cell 1;have f1:=HX7.out.frozen 1;have l1:=HX7.out.lt;go_wp2_with fail;refine NoPanic.normal ?_;have hW8:=HW6.out.addK HP6.out HGR.out HO7.out HAT.out;have hg2:=Zak (p:=⟨xb,1,none⟩) (World.grownBy.refl wb (some xb)) (.inl rfl) (.slice A2 (lbs.length+1) c2);have hG8:=HG7.out.grown hg2 (by
    intro e;injection e with e
    have h1:=HXW.out;have h2:=HGX.out
    omega)
   have hB8:=Zai (HB6.out.grown HGR.out HB6.out.size (fun g hg=>HOW6.out g (by rw[HW6.out.ol g ((Zaf _ _ _).symm.trans hg)];decide))) (YaH HB6.out.size HGR.out.size) hg2 HXW.out;have hO8:=Zjy (k:=1) HOW6.out HB6.out.size;generalize hw8:wb.setCell ⟨xb,1,none⟩ (.slice A2 (lbs.length+1) c2)=w8 at hW8 hG8 hB8 ⊢;have HW8:=hid hW8;have HG8:=hid hG8;have HB8:=hid hB8;have HO8:=hid hO8;clear hW8 hG8 hB8 hO8 hw8 hg2 v1 f1 l1 HX7 HG7 HO7 HGR HAT;obtain⟨k2,hk2⟩:∃k2,k+1=k2:=⟨_,rfl⟩;have hwk:IntKind.i64.wrap ((k:Int)+1)=(k2:Int):=by rw[show (k:Int)+1=(k2:Int) by omega];exact IntWalk.i64_in _ (by omega)
   have HK2:=hid hk2;clear hk2;go_wp2_with fail
   go_roundw
   case rel=>
    refine⟨k2,_,mbs++[mb],lbs++[w5.heap.size],A',c',A2,c2,by have:=HK2.out;omega,rfl,?_,by simp[HML.out,HK2.out],by simp[HLL.out,HK2.out],HO8.out,HG8.out,HB8.out⟩;rw[<-HK2.out,ZmJ,ZmK];exact HW8.out
   case measure=>simp[intOf];have:=HK2.out;omega
  ·have hkw:k=I.c.wk.toNat:=by have:=HN.out.wk;omega
   have hlt':¬((k:Int)<I.c.wk):=hlt;go_wp2_with fail
   go_ret2
   refine⟨xb,rfl,⟨own,mbs,lbs,AW,cW,AL,cL,?_,by rw[HML.out,hkw],by rw[HLL.out,hkw],HOWN.out⟩,HBR.out⟩;have h:=HWR.out;rw[hkw] at h;exact h
theorem Zxl{w:World}{g:Nat}{t:TypeId}{x y z u:Value}(h:Blk w g t #[x,y,z,u])(a b c d:Value) :
  w.grownBy ((((w.setCell ⟨g,0,none⟩ a).setCell ⟨g,1,none⟩ b).setCell ⟨g,2,none⟩ c).setCell ⟨g,3,none⟩ d) (some g)/\Blk ((((w.setCell ⟨g,0,none⟩ a).setCell ⟨g,1,none⟩ b).setCell ⟨g,2,none⟩ c).setCell ⟨g,3,none⟩ d) g t #[a,b,c,d]:=
 ⟨Zak (p:=⟨g,3,none⟩) (Zak (p:=⟨g,2,none⟩) (Zak (p:=⟨g,1,none⟩) (Zak (p:=⟨g,0,none⟩) (World.grownBy.refl w _) (.inl rfl) a) (.inl rfl) b) (.inl rfl) c) (.inl rfl) d,by simpa using (((h.set_ 0 a).set_ 1 b).set_ 2 c).set_ 3 d⟩
theorem Zob{w w':World}{base g:Nat}{e:TypeId}{size:Nat}{v:Value}{n:Nat}{xs:List Value}(h:w.ownsRow base e size v n xs)(hg:w.grownBy w' (some g))(hlt:g<base):w'.ownsRow base e size v n xs:=by
 refine h.kept hg ?_
 rcases h.2 with⟨rfl,_⟩|⟨g',cap,cur,rfl,hb,_⟩
 ·exact .inl rfl
 ·refine .inr fun e'=>?_
  have e2:g'=g:=by simpa [Value.ownBlock] using e'
  omega
theorem ZjZ.far{w w':World}{base n g:Nat}{Ao:Option Addr}{E co:Nat}{os:List (List Int)}(h:ZjZ w base n Ao E co os)(hg:w.grownBy w' (some g))(hlt:g<base):ZjZ w' base n Ao E co os:=by
 obtain⟨vs,h1,h2⟩:=h.ex;exact⟨vs,Zob h1 hg hlt,⟨h2.len,fun i s l a b=>⟨(h2.row i s l a b).1,Zob (h2.row i s l a b).2 hg hlt⟩⟩⟩
theorem ZjZ.lower{w:World}{base base' n:Nat}{Ao:Option Addr}{E co:Nat}{os:List (List Int)}(h:ZjZ w base n Ao E co os)(hb:base'<=base):ZjZ w base' n Ao E co os:=by
 obtain⟨vs,h1,h2⟩:=h.ex;exact⟨vs,Zae h1 hb,h2.base hb⟩
def Zlt(m b st E:Nat)(L:List Int)(w:World)(e:Ending)(w':World):Prop:=∃Ao co,e=.returned (Zsj m b st Ao E co)/\ZjZ w' w.heap.size m Ao E co (ZbU L m E)/\Bz0 w w'
theorem Zpm(A:Option Addr)(n cap:Nat)(c:Cfg)(S:Option Addr)(m cS:Nat)(AP:Option Addr)(P cP:Nat)(AD:Option Addr)(D cD b st q E:Nat)(L:List Int)(w:World)
  (hb:c.ba=b) (hst:c.st=st) (hb1:1<=b) (hbn:b<=m) (hm:m<=60) (hs:st<=60) (hq:m/b=q) (hE:cnt st q=E) (hD2:D<=4000) (hl:L.length=D) (h:Rd w 1 AD D (uv L)) (hu:InU L) (hneed:E*(m-1)<=D) :
  Calls prog 28 #[inV A n cap c S m cS AP P cP AD D cD] w (Zlt m b st E L w):=by
 have HNW:=hid (fun W (r:Rd W 1 AD D (uv L))=>Zlb m b st D cD q E AD L W hb1 hbn hm hs hq hE hD2 hl r hu);have HG:Hid (∀W,(w.alloc (.cells (inC A n cap c S m cS AP P cP AD D cD) 29)).alloc (.cells #[.int .i64 0,.int .i64 0,.int .i64 0,.slice none 0 0] 84)=W->Below w.heap.size w W/\Blk W w.heap.size 29 (inC A n cap c S m cS AP P cP AD D cD)/\Blk W (w.heap.size+1) 84 #[.int .i64 0,.int .i64 0,.int .i64 0,.slice none 0 0]):=hid (by
  rintro W rfl;exact⟨(bA0 _).alloc (by simp) _,(Blk.new _ _ _).alloc _,Blk.new' _ _ (by simp)⟩)
 have HR:=hid h;have HN:=hid hneed;have HBB:=hid hb;have HST:=hid hst;clear hb hst hb1 hbn hm hs hq hE hD2 hl h hu hneed
 go_enter func28,ntmps28
 go_wp2_with fail;obtain⟨w0,hw0⟩:∃w0,(w.alloc (.cells (inC A n cap c S m cS AP P cP AD D cD) 29)).alloc (.cells #[.int .i64 0,.int .i64 0,.int .i64 0,.slice none 0 0] 84)=w0:=⟨_,rfl⟩;obtain⟨hB,hI,hX⟩:=HG.out _ hw0;rw[hw0];have HB:=hid hB;have HI:=hid hI;have HX:=hid hX;clear hw0 HG hB hI hX;have k:=HI.out;have c5:=cv5 k;have c7:=cv7 k;have c12:=cv12 k;have c14:=cv14 k;have cl:=k.lt;clear k;go_wp2_with fail;rw[HBB.out,HST.out];((with_reducible refine(HNW.out _ (HR.out.below HB.out)).mono ?_);rintro e w1 ⟨hb1,(⟨-,Ao,co,vs,rfl,ho1,hn1⟩|⟨hbad,-⟩)⟩)
 rotate_left
 ·exfalso
  have:=HN.out;omega
 have HB1:=hid (bT0 HB.out hb1);have HX1:=hid (HX.out.kept hb1);have HRS:=hid (ZjZ.mk ⟨vs,ho1,hn1⟩:ZjZ w1 w0.heap.size m Ao E co (ZbU L m E));clear hb1 ho1 hn1 c5 c7 c12 c14 cl;have m0:=HX1.out;have x0:w1.cell? ⟨w.heap.size+1,0,none⟩=some (.int .i64 0):=m0.cell 0;have x1:w1.cell? ⟨w.heap.size+1,1,none⟩=some (.int .i64 0):=m0.cell 1;have x2:w1.cell? ⟨w.heap.size+1,2,none⟩=some (.int .i64 0):=m0.cell 2;have x3:w1.cell? ⟨w.heap.size+1,3,none⟩=some (.slice none 0 0):=m0.cell 3;have f0:=m0.frozen 0;have f1:=m0.frozen 1;have f2:=m0.frozen 2;have f3:=m0.frozen 3;have lx:=m0.lt;clear m0;go_wp2_with fail;have hst:=Zxl HX1.out (.int .i64 m) (.int .i64 b) (.int .i64 st) (.slice Ao E co);have hlt0:=HX.out.lt;refine bodyPost_ret (v:=Zsj m b st Ao E co) (by simp[results,results28,go_sem,x0,x1,x2,x3,lx]) rfl ⟨Ao,co,rfl,?_,?_⟩
 ·exact((HRS.out.far hst.1 hlt0).below (bA0 _)).lower HB.out.size
 ·exact(Zai HB1.out HB1.out.size hst.1 (by omega)).alloc (by have:=HB1.out.size;have:=hst.1.size;omega) _
def Zlu(K:MC)(P:List Int)(j:Nat):List Int->Int
 |[]=>0
 |i::l=>(exG K P i).getD j 0+Zlu K P j l
theorem Zpn{xs ys:List Int}{n j:Nat}(hj:j<xs.length)(hn:j<n):(ZbK xs 0 ys n).getD j 0=wrap64 (xs.getD j 0+ys.getD j 0):=by
 rw[YaT,Zbh,YaA hj,Option.map_some,Option.getD_some,if_pos (by omega),Nat.sub_zero];rw[YaT (l:=xs),YaA hj,Option.getD_some]
theorem Zhf{K:MC}{P:List Int}{j:Nat}(hj:j<K.NP):∀(l G:List Int),G.length=K.NP->Zaw G->(ZcP K P G l).getD j 0=wrap64 (G.getD j 0+Zlu K P j l)
 |[],G,hl,hi=>by
  have:=getD_in hi j;rw[Zlu,Int.add_zero];exact(Za6 _ this.1 this.2).symm
 |i::l,G,hl,hi=>by
  have h1:Zaw (ZbK G 0 (exG K P i) K.NP):=by
   have:=Zm6 (K:=K) (P:=P) hi [i];exact this
  have e:ZcP K P G (i::l)=ZcP K P (ZbK G 0 (exG K P i) K.NP) l:=rfl;rw[e,Zhf hj l _ (by rw[Zbg,hl]) h1,Zpn (by omega) hj,Zfg,Zlu]
  congr 1
  omega
theorem Zm7(K:MC)(P G a b:List Int):ZcP K P G (a++b)=ZcP K P (ZcP K P G a) b:=by simp[ZcP]
def Zlv(I:InC)(x t a:Nat):List Int:=(List.range a).flatMap fun(b:Nat)=>Ztn (I.mc x) (t:Int) (b:Int)
def zS(I:InC)(P:List Int)(t x i:Nat):Int:=(ZcP (I.mc x) P (Zas I.P) (Zlv I x t (I.mc 0).pc.mi)).getD i 0
section
variable{I:InC}{F:Nat→Cr}{t:Nat}{p μ:Nat→Int}{rcd:List (List Int×List Int)}
theorem Zpo(x t a:Nat):Zlv I x t (a+1)=Zlv I x t a++Ztn (I.mc x) (t:Int) (a:Int):=by unfold Zlv;rw[List.range_succ,List.flatMap_append];simp
theorem ZdJ(x:Nat):∀a,(Zgo I t ((List.range a).map (fun a=>((1,0,a,0):Sl4))) F x).G=ZcP (I.mc x) (F x).P (F x).G (Zlv I x t a)/\(Zgo I t ((List.range a).map (fun a=>((1,0,a,0):Sl4))) F x).P=(F x).P/\(Zgo I t ((List.range a).map (fun a=>((1,0,a,0):Sl4))) F x).M=(F x).M/\(Zgo I t ((List.range a).map (fun a=>((1,0,a,0):Sl4))) F x).rcd=(F x).rcd
 |0=>⟨rfl,rfl,rfl,rfl⟩
 |a+1=>by
  obtain⟨h1,h2,h3,h4⟩:=ZdJ x a;rw[List.range_succ,List.map_append,Zbv]
  show (stp I t (1,0,a,0) _ x).G=_/\(stp I t (1,0,a,0) _ x).P=_/\(stp I t (1,0,a,0) _ x).M=_/\(stp I t (1,0,a,0) _ x).rcd=_
  unfold stp;rw[if_neg (by show ¬(1:Nat)=3;decide),if_neg (by show ¬(1:Nat)=4;decide)];unfold Za1 Zb4;rw[if_pos (by show ((1:Nat):Int)=1;rfl)];refine⟨?_,h2,h3,h4⟩;rw[Zpo,Zm7,<-h1,<-h2];rfl
theorem ZjV(l:List Int):l=ZaN (fun i=>l.getD i 0) l.length:=by
 apply List.ext_getElem?
 intro i;unfold ZaN
 by_cases hi:i<l.length
 ·rw[YaR,List.getElem?_range hi,YaA hi];simp[YaT,hi]
 ·rw[YaN (by omega),YaN (by simp;omega)]
structure Us(I:InC)(F:Nat->Cr)(p μ:Nat->Int)(rcd:List (List Int×List Int)):Prop where
 G:∀x,x<I.rg.n->(F x).G=Zas I.P
 P:∀x,x<I.rg.n->(F x).P=ZaN p I.P
 M:∀x,x<I.rg.n->(F x).M=ZaN μ I.P
 rcd:∀x,x<I.rg.n->(F x).rcd=rcd
theorem ZtU(z:Nat->Nat->Int)(x:Nat):rvK I z (kD I 0) x=z x:=by
 funext i
 unfold rvK kD
 split
 ·rw[if_neg (by omega)];rfl
 ·rfl
theorem ZbJ(n:Nat):(Zas n).length=n:=by simp[Zas]
theorem Us.start(h:Us I F p μ rcd):Vd I (Zgo I t ((List.range (I.mc 0).pc.mi).map (fun a=>((1,0,a,0):Sl4))) F) (zS I (ZaN p I.P) t) p μ rcd 0:=by
 have e0:pD I p μ (ZhY I (zS I (ZaN p I.P) t)) (bD 0)=p:=by
  funext i
  unfold pD bD;rw[if_neg (by simp)]
 have e1:mD I μ (ZhY I (zS I (ZaN p I.P) t)) (bD 0)=μ:=by
  funext i
  unfold mD bD;rw[if_neg (by simp)]
 unfold Vd;rw[e0,e1];refine⟨fun x hx=>?_,fun x hx=>?_,fun x hx=>?_,fun x hx=>?_⟩
 ·rw[(ZdJ x _).1,h.P x hx,h.G x hx,ZtU];have:=ZjV (ZcP (I.mc x) (ZaN p I.P) (Zas I.P) (Zlv I x t (I.mc 0).pc.mi));rw[Zcr,ZbJ] at this;exact this
 ·rw[(ZdJ x _).2.1];exact h.P x hx
 ·rw[(ZdJ x _).2.2.1];exact h.M x hx
 ·rw[(ZdJ x _).2.2.2];exact h.rcd x hx
theorem Zxm(P:List Int)(t:Nat):ZwU (zS I P t):=fun w i=>by
 have hz:Zaw (Zas I.P):=by
  intro x hx;obtain rfl:=List.eq_of_mem_replicate hx;exact⟨by decide,by decide⟩
 exact getD_in (Zm6 (K:=I.mc w) (P:=P) hz _) i
theorem Us.step(hO:I.Ok)(h:Us I F p μ rcd):∃p' μ':Nat->Int,Us I (Zgo I t ((I.mc 0).pc.stepS 60) F) p' μ' (rcd++[(ZaN p' I.P,ZaN μ' I.P)]) /\
  ∀i,i<I.P->μ' i=Zf2 I.c.mo I.c.sh (μ i) (ZhY I (zS I (ZaN p I.P) t) i)/\p' i=Zl5 I.c.ra I.c.sh (p i) (μ' i):=by
 have hok:=InC.pc_ok hO;have h1:=Vd.groups (t:=t) hO (Zxm (ZaN p I.P) t) (I.mc 0).pc.grps (d:=0) (Zpf hok) (Int.le_refl _) (h.start (t:=t));rw[Int.toNat_natCast] at h1;refine⟨pD I p μ (ZhY I (zS I (ZaN p I.P) t)) (bD (I.mc 0).pc.nb),mD I μ (ZhY I (zS I (ZaN p I.P) t)) (bD (I.mc 0).pc.nb),?_,fun i hi=>?_⟩
 ·unfold PlC.stepS;rw[Zbv,Zbv];have e:∀(F':Nat->Cr) x,Zgo I t [(6,0,0,0)] F' x=⟨(F' x).P,(F' x).M,Zas I.P,(F' x).rcd++[((F' x).P,(F' x).M)],(F' x).opn⟩:=fun F' x=>by
   show stp I t (6,0,0,0) F' x=_
   unfold stp;rw[if_neg (by show ¬(6:Nat)=3;decide),if_neg (by show ¬(6:Nat)=4;decide)];unfold Za1 Zb4;rw[if_neg (by show ¬((6:Nat):Int)=1;decide),if_neg (by show ¬((6:Nat):Int)=2;decide),if_neg (by show ¬((6:Nat):Int)=5;decide),if_pos (by show ((6:Nat):Int)=6;rfl)];rfl
  refine⟨fun x hx=>by rw[e],fun x hx=>by rw[e];exact h1.P x hx,fun x hx=>by rw[e];exact h1.M x hx,fun x hx=>?_⟩;rw[e];dsimp only;rw[h1.rcd x hx,h1.P x hx,h1.M x hx]
 ·have hj:=(ZrQ hok (i:=i) (show i<(I.mc 0).pc.P from hi)).1;unfold pD mD bD;rw[YaJ hj,if_pos rfl,if_pos rfl];exact⟨rfl,rfl⟩
end
theorem Zhg(K:MC)(P:List Int)(j:Nat):∀a b:List Int,Zlu K P j (a++b)=Zlu K P j a+Zlu K P j b
 |[],b=>by simp[Zlu]
 |i::a,b=>by
  rw[List.cons_append,Zlu,Zlu,Zhg K P j a b];omega
theorem ZiL{l:List Int}{K:Nat}(hK:1<=K):(List.range K).flatMap (fun(b:Nat)=>ZaV l (b:Int) (K:Int))=l:=by
 have:∀a,a<=K->(List.range a).flatMap (fun(b:Nat)=>ZaV l (b:Int) (K:Int))=Ztl l K a:=by
  intro a
  induction a with
  |zero=>intro _;rw[Zrb];rfl
  |succ a ih=>
   intro h;rw[List.range_succ,List.flatMap_append,ih (by omega),Zrc (by omega)];simp
 rw[this K (YaF _),Ztm hK]
theorem Zhh(K:MC)(P:List Int)(j:Nat){l:List Int}{m:Nat}:∀a,Zeu (fun(v:Nat)=>Zlu K P j (ZaV l (v:Int) (m:Int))) a=Zlu K P j ((List.range a).flatMap (fun(b:Nat)=>ZaV l (b:Int) (m:Int)))
 |0=>rfl
 |a+1=>by
  rw[Zeu,Zhh K P j a,List.range_succ,List.flatMap_append,Zhg];simp
theorem Zlw(g:Nat->Int):∀m,wrap64 (Zeu (fun v=>wrap64 (g v)) m)=wrap64 (Zeu g m)
 |0=>rfl
 |m+1=>by
  rw[Zeu,Zeu];have h:=Zlw g m;have h1:=ZjK (Zeu (fun v=>wrap64 (g v)) m) (g m);have h2:=ZjK (g m) (Zeu (fun v=>wrap64 (g v)) m);have h3:=ZjK (g m) (Zeu g m);rw[h1,Int.add_comm,<-h2,h,h3,Int.add_comm]
theorem Zr6(I:InC)(x:Nat)(P:List Int)(j:Nat):∀l,Zlu (I.mc x) P j l=Zlu (I.mc 0) P j l
 |[]=>rfl
 |i::l=>by
  rw[Zlu,Zlu,Zr6 I x P j l];rfl
def InC.bat(I:InC)(t:Nat):List Int:=Za7 I.L I.m I.c.ba.toNat (I.m/I.c.ba.toNat) I.c.st.toNat (t:Int)
theorem Zlx{I:InC}(hO:I.Ok)(P:List Int)(t:Nat){i:Nat}(hi:i<I.P):ZhY I (zS I P t) i=(ZcP (I.mc 0) P (Zas I.P) (I.bat t)).getD i 0:=by
 have hok:=InC.pc_ok hO;have hz:Zaw (Zas I.P):=by
  intro x hx;obtain rfl:=List.eq_of_mem_replicate hx;exact⟨by decide,by decide⟩
 have hzz:(Zas I.P).getD i 0=0:=by unfold Zas;simp[YaT,hi]
 have hg:∀v,zS I P t v i=wrap64 (Zlu (I.mc 0) P i (ZaV (I.bat t) (v:Int) ((I.mc 0).pc.m:Int))):=fun v=>by
  unfold zS;rw[Zhf (K:=I.mc v) (show i<(I.mc v).NP from hi) (Zlv I v t (I.mc 0).pc.mi) (Zas I.P) (ZbJ _) hz,hzz,Int.zero_add,Zr6];have:Zlv I v t (I.mc 0).pc.mi=ZaV (I.bat t) (v:Int) ((I.mc 0).pc.m:Int):=ZiL (l:=ZaV (I.bat t) (v:Int) ((I.mc 0).pc.m:Int)) hok.i1;rw[this]
 unfold ZhY;rw[ZdV _ _ _ (fun v _=>hg v),Zlw,Zhh,ZiL hok.m1,Zhf (K:=I.mc 0) (show i<(I.mc 0).NP from hi) (I.bat t) (Zas I.P) (ZbJ _) hz,hzz,Int.zero_add]
def trS(I:InC):Nat->List Int×List Int
 |0=>(I.P0,Zas I.P)
 |t+1=>(Zbn I.c.ra I.c.mo I.c.sh (trS I t).1 (trS I t).2 (ZcP (I.mc 0) (trS I t).1 (Zas I.P) (I.bat t)) 0 I.P,Zbm I.c.mo I.c.sh (trS I t).2 (ZcP (I.mc 0) (trS I t).1 (Zas I.P) (I.bat t)) 0 I.P)
theorem Zhi(f g:Nat->Int)(n:Nat)(h:∀i,i<n->f i=g i):ZaN f n=ZaN g n:=by
 unfold ZaN
 apply List.map_congr_left
 intro i hi;exact h i (List.mem_range.1 hi)
theorem ZwE{I:InC}(hO:I.Ok)(hP:I.P0.length=I.P):∀t,∃p μ:Nat->Int,Us I (I.rg.sy (t*(I.mc 0).pc.sl)) p μ ((List.range (t+1)).map (trS I))/\ZaN p I.P=(trS I t).1/\ZaN μ I.P=(trS I t).2
 |0=>by
  have e1:ZaN (fun i=>I.P0.getD i 0) I.P=I.P0:=by
   have:=ZjV I.P0;rw[hP] at this;exact this.symm
  have e2:ZaN (fun i=>(Zas I.P).getD i 0) I.P=Zas I.P:=by
   have:=ZjV (Zas I.P);rw[ZbJ] at this;exact this.symm
  refine⟨fun i=>I.P0.getD i 0,fun i=>(Zas I.P).getD i 0,⟨fun x hx=>?_,fun x hx=>?_,fun x hx=>?_,fun x hx=>?_⟩,e1,e2⟩
  ·rw[Nat.zero_mul];rfl
  ·rw[Nat.zero_mul,e1];rfl
  ·rw[Nat.zero_mul,e2];rfl
  ·rw[Nat.zero_mul];rfl
 |t+1=>by
  obtain⟨p,μ,h,h1,h2⟩:=ZwE hO hP t;obtain⟨p',μ',h',he⟩:=h.step (t:=t) hO;have e2:ZaN μ' I.P=(trS I (t+1)).2:=by
   rw[trS,<-h1,<-h2,ZiF];refine Zhi _ _ _ (fun i hi=>?_);rw[if_pos ⟨Nat.zero_le _,by omega⟩,Nat.sub_zero,(he i hi).1,Zlx hO _ _ hi]
  have e1:ZaN p' I.P=(trS I (t+1)).1:=by
   rw[trS,<-h1,<-h2,ZiE];refine Zhi _ _ _ (fun i hi=>?_);rw[if_pos ⟨Nat.zero_le _,by omega⟩,Nat.sub_zero,(he i hi).2,(he i hi).1,Zlx hO _ _ hi]
  have e:=fun x (hx:x<I.rg.n)=>Zvp hO t hx
  refine⟨p',μ',⟨fun x hx=>by rw[e x hx];exact h'.G x hx,fun x hx=>by rw[e x hx];exact h'.P x hx,fun x hx=>by rw[e x hx];exact h'.M x hx,fun x hx=>?_⟩,e1,e2⟩;rw[e x hx,h'.rcd x hx,e1,e2,List.range_succ (n:=t+1),List.map_append];rfl
theorem ZvD{I:InC}(hO:I.Ok)(hP:I.P0.length=I.P){s:WS}(h:At I (fun _=>I.rg.N) s){x:Nat}{m:MS}(hm:s.mss[x]?=some m):m.rcd=(List.range (I.c.st.toNat+1)).map (trS I):=by
 obtain⟨p,μ,hU,_,_⟩:=ZwE hO hP I.c.st.toNat;have hx:x<I.rg.n:=by rw[<-h.ml];exact ZbH hm
 have h1:=(h.m x m hm).cr;have h2:=hU.rcd x hx;have h3:(ZmO m).rcd=(I.rg.sy I.rg.N x).rcd:=by rw[h1]
 exact h3.trans h2
theorem ZtV{K K':MC}(h1:K'.l=K.l)(h2:K'.n=K.n)(h3:K'.NP=K.NP)(h4:K'.f=K.f)(h5:K'.c.sh=K.c.sh)(P:List Int)(i:Int):exG K' P i=exG K P i:=by
 unfold exG;rw[h1,h2,h4,h5]
theorem Zr7{K K':MC}(h1:K'.l=K.l)(h2:K'.n=K.n)(h3:K'.NP=K.NP)(h4:K'.f=K.f)(h5:K'.c.sh=K.c.sh)(P:List Int)(l:List Int):∀G,ZcP K' P G l=ZcP K P G l:=by
 induction l with
 |nil=>intro G;rfl
 |cons i l ih=>
  intro G;have e:∀K:MC,ZcP K P G (i::l)=ZcP K P (ZbK G 0 (exG K P i) K.NP) l:=fun K=>by unfold ZcP;rw[List.foldl_cons]
  rw[e,e,ih,ZtV h1 h2 h3 h4 h5,h3]
theorem Zr8{I J:InC}(hl:J.l=I.l)(hn:J.n=I.n)(hP:J.P=I.P)(hf:J.f=I.f)(h0:J.P0=I.P0)(hL:J.L=I.L)(hm:J.m=I.m)(hsh:J.c.sh=I.c.sh)(hra:J.c.ra=I.c.ra)(hmo:J.c.mo=I.c.mo)(hba:J.c.ba=I.c.ba)(hst:J.c.st=I.c.st)(t:Nat):trS J t=trS I t:=by
 induction t with
 |zero=>rw[trS,trS,h0,hP]
 |succ t ih=>
  have hb:J.bat t=I.bat t:=by
   unfold InC.bat;rw[hL,hm,hba,hst]
  have ha:=fun P=>Zr7 (K:=I.mc 0) (K':=J.mc 0) hl hn hP hf hsh P (I.bat t) (Zas I.P)
  rw[trS,trS,ih,hb,hP,ha,hra,hmo,hsh]
section
variable{c:PlC}
theorem Zr9(x:Nat)(t:Int)(hx:x<c.m):(c.itemsI x t).length=c.lenI (x:Int):=by
 rw[<-c.rItemsI_length (x:Int) t,c.rItemsI_in (x:Int) t ⟨by omega,by omega⟩]
theorem Zun(h:c.Ok)(x:Nat)(hx:x<c.m):∀t,c.cn x (t*c.sl)=t*c.lenI (x:Int)
 |0=>by rw[Nat.zero_mul,Nat.zero_mul];rfl
 |t+1=>by
  rw[Nat.add_mul,Nat.one_mul,ZjG x t c.sl (YaF _),Zun h x hx t,Zrp h x t hx,Zr9 x _ hx,Nat.add_mul,Nat.one_mul]
theorem Zoc(a:Nat)(f:Nat->Nat):∀n,Zee (fun x=>a*f x) n=a*Zee f n
 |0=>rfl
 |n+1=>by rw[Zee,Zee,Zoc a f n,Nat.mul_add]
theorem Zly:∀n,Zee (fun x=>c.lenI (x:Int)) n=c.sumI n
 |0=>rfl
 |n+1=>by rw[Zee,Zly n];rfl
end
section
variable{I:InC}
theorem Zm8(hO:I.Ok):I.tot=I.c.st.toNat*(I.mc 0).pc.sumI (I.mc 0).pc.m:=by
 unfold InC.tot;rw[<-Zly,<-Zoc];exact ZdW _ _ _ (fun y hy=>Zun (InC.pc_ok hO) y hy _)
theorem ZvE(hO:I.Ok):((I.mc 0).pc.sumI (I.mc 0).pc.m:Int)*I.c.st=(I.tot:Int):=by
 have h:=hO.nums.st;rw[Zm8 hO,Int.natCast_mul,Int.mul_comm,Int.toNat_of_nonneg h.1]
theorem Zxn(hO:I.Ok)(hP:I.P0.length=I.P)(h:I.tot<=100000):Sm I:=by
 refine⟨fun x hx=>YaH ?_ h,hP⟩;have:∀(f:Nat->Nat) n x,x<n->f x<=Zee f n:=by
  intro f n
  induction n with
  |zero=>intro x hx;omega
  |succ n ih=>
   intro x hx;rw[Zee]
   by_cases e:x=n
   ·rw[e];omega
   ·have:=ih x (by omega);omega
 exact this (fun x=>(I.mc 0).pc.cn x I.rg.N) _ x hx
theorem ZtW(hO:I.Ok):(I.rg.n:Int)=I.c.wk:=by
 have h:=hO.nums.wk
 show (I.c.wk.toNat:Int)=_
 omega
theorem Zuo(hO:I.Ok):I.tot<=12*(8*200000000):=by
 rw[Zm8 hO];have h1:=PlC.sumI_le (InC.pc_ok hO) (I.mc 0).pc.m;have h2:=(InC.pc_ok hO).m2;have h3:=hO.st;refine Nat.mul_le_mul (by omega) (YaH h1 (YaW _ h2))
def InC.div(I:InC)(wk mi bu ch wi ca:Int):InC:={ I with c:=⟨I.c.sh,I.c.ra,I.c.mo,wk,I.c.ba,mi,I.c.st,bu,ch,wi,ca⟩ }
theorem ZwF(hO:I.Ok){wk mi bu ch wi ca:Int}(h1:1<=wk/\wk<=8/\wk<=I.c.ba)(h2:1<=mi/\mi<=20)(h3:1<=bu/\bu<=1048576)(h4:1<=ch/\ch<=1048576)(h5:1<=wi/\wi<=1048576)(h6:1<=ca/\ca<=1048576):(I.div wk mi bu ch wi ca).Ok:=by
 have N:=hO.nums;have hok:Zho I.l (I.div wk mi bu ch wi ca).c (Zf5 I.N I.M I.es) I.m I.P I.D=true:=by
  have h0:=hO.ok;unfold Zho at h0 ⊢;simp only[YaQ] at h0 ⊢;obtain⟨g1,g2,g3,g4,g5⟩:=h0;refine⟨?_,g2,g3,g4,g5⟩;simp only[ZaO,YaQ,Zft,Zjb];exact⟨⟨h1.1,by show wk<=64;omega⟩,N.sh,N.sz,⟨h2.1,by show mi<=1048576;omega⟩,h3,h4,h5,h6,N.st,⟨h1.2.2,N.bw.2⟩⟩
 exact⟨hok,hO.hl,hO.el,hO.dl,hO.hN,hO.hM,hO.fl,hO.fi,hO.m60,hO.st,hO.P60,h1.2.1,h2.2,hO.D4,hO.lu,hO.pi,hO.ra,hO.mo⟩
theorem ZwG{w:World}(h:ZmD w I)(wk mi bu ch wi ca:Int):ZmD w (I.div wk mi bu ch wi ca):=
 ⟨h.hl,h.rl,h.cap,h.el,h.re,h.rs,h.pl,h.rp,h.dl,h.rd⟩
theorem ZwH(wk mi bu ch wi ca:Int)(t:Nat):trS (I.div wk mi bu ch wi ca) t=trS I t:=
 Zr8 (I:=I) (J:=I.div wk mi bu ch wi ca) rfl rfl rfl rfl rfl rfl rfl rfl rfl rfl rfl rfl t
end
def Wd(S:Nat->Prop)(w:World)(xb:Nat)(I:InC)(s:WS):Prop:=∃own mbs lbs AW cW AL cL,Zar own w xb I mbs lbs s.mss s.lss AW cW AL cL s.cnt/\mbs.length=I.rg.n/\lbs.length=I.rg.n/\(∀j,own j≠0->S j)
section
variable{S T:Nat→Prop}{w w':World}{xb:Nat}{I:InC}{s:WS}
theorem Wd.mono(h:Wd S w xb I s)(hST:∀i,i<w.heap.size->S i->T i):Wd T w xb I s:=by
 obtain⟨own,mbs,lbs,AW,cW,AL,cL,hW,hm,hl,ho⟩:=h;refine⟨fun j=>if j<w.heap.size then own j else 0,mbs,lbs,AW,cW,AL,cL,hW.below (bR0 _ _) (fun i hi=>if_pos hi),hm,hl,fun j hj=>?_⟩;dsimp only at hj
 split at hj
 ·rename_i hlt
  exact hST j hlt (ho j hj)
 ·exact absurd rfl hj
theorem Wd.but(h:Wd S w xb I s)(hb:But T w w')(hST:∀i,S i->¬T i):Wd S w' xb I s:=by
 obtain⟨own,mbs,lbs,AW,cW,AL,cL,hW,hm,hl,ho⟩:=h;exact⟨own,mbs,lbs,AW,cW,AL,cL,hW.step hb.size (fun i hi h1=>hb.block i hi (hST i (ho i (by omega)))) (fun _ _=>rfl),hm,hl,ho⟩
theorem Wd.below(h:Wd S w xb I s)(hb:Below w.heap.size w w'):Wd S w' xb I s:=
 h.but (T:=fun _=>False) (But.of_below _ hb) (fun _ _ h=>h)
end
theorem Zsa(I:InC)(w:World)(hI:ZmD w I)(hO:I.Ok) :
  Calls prog 12 #[inV I.A I.n I.cap I.c I.S I.m I.cS I.AP I.P I.cP I.AD I.D I.cD] w fun e w'=>∃xb,e=.returned (.tuple #[.pointer (some ⟨xb,0,none⟩),.int .i64 0])/\Wd (fun i=>w.heap.size<=i/\i<w'.heap.size) w' xb I (ZbA I I.rg.n)/\Bz0 w w':=by
 refine(Zls I w hI hO).mono ?_;rintro e w' ⟨xb,rfl,⟨own,mbs,lbs,AW,cW,AL,cL,hW,hm,hl,ho⟩,hb⟩;have h:Wd (fun i=>w.heap.size<=i) w' xb I (ZbA I I.rg.n):=⟨own,mbs,lbs,AW,cW,AL,cL,hW,hm,hl,ho⟩;exact⟨xb,rfl,h.mono (fun i hi h=>⟨h,hi⟩),hb⟩
theorem Zhj{S:Nat->Prop}{w:World}{xb:Nat}{I:InC}(h:Wd S w xb I (ZbA I I.rg.n))(hO:I.Ok)(hP:I.P0.length=I.P)(most:Nat)(hm:I.tot*I.rg.n<=most)(hm3:most<=3000) :
  Calls prog 19 #[.pointer (some ⟨xb,0,none⟩),.int .i64 most] w fun e w'=>∃N:Nat,e=.returned (.tuple #[.int .i64 N,.bool true])/\(∃s',Wd (fun i=>S i\/(w.heap.size<=i/\i<w'.heap.size)) w' xb I s'/\At I (fun _=>I.rg.N) s')/\But S w w':=by
 obtain⟨own,mbs,lbs,AW,cW,AL,cL,hW,hml,hl,ho⟩:=h;have hn1:=(Zd1 (InC.pc_ok hO)).n1;have h3:I.tot<=most:=YaH (Nat.le_mul_of_pos_right _ hn1) hm;refine(Zpd hW hO (Zxn hO hP (by omega)) (ZtW hO) hml hl most hm (by omega)).mono ?_;rintro e w' ⟨N,rfl,own',s',hR,hA⟩;refine⟨N,rfl,⟨s',Wd.mono (S:=fun i=>S i\/w.heap.size<=i) ⟨own',mbs,lbs,AW,cW,AL,cL,hR.wld,hml,hl,fun j hj=>?_⟩ (fun i hi h=>?_),hA⟩,hR.but.mono (fun i _ hi=>ho i hi)⟩
 ·rcases hR.new j hj with h1|h1
  ·exact .inl (ho j h1)
  ·exact .inr h1
 ·rcases h with h|h
  ·exact .inl h
  ·exact .inr ⟨h,hi⟩
theorem ZvF{S:Nat->Prop}{w:World}{xb:Nat}{I:InC}{s:WS}(h:Wd S w xb I s)(hO:I.Ok)(hA:At I (fun _=>I.rg.N) s) :
  Calls prog 33 #[.pointer (some ⟨xb,0,none⟩)] w fun e w'=>e=.returned (.bool true)/\Bz0 w w':=by
 obtain⟨own,mbs,lbs,AW,cW,AL,cL,hW,hml,hl,ho⟩:=h;have hn8:I.rg.n<=8:=(InC.pc_ok hO).m2;have h:=ZbI hW I.rg.n hml (by omega)
 rwa [(ZjQ hO hA).2 (fun x hx=>rfl)] at h
def trF(I:InC)(i:Nat):List Int×List Int:=trS I (i-1)
theorem Zey(I:InC)(hP:I.P0.length=I.P):∀t,(trS I t).1.length=I.P/\(trS I t).2.length=I.P
 |0=>⟨hP,ZbJ _⟩
 |t+1=>by
  rw[trS,Zcc,Zcb];exact⟨(Zey I hP t).1,(Zey I hP t).2⟩
theorem Zsb(I:InC)(n:Nat){i:Nat}(hi:i<n):ZjY ((List.range n).map (trS I)) (i+1)=trF I (i+1):=by
 unfold ZjY trF;rw[Nat.add_sub_cancel,YaT,YaR,List.getElem?_range hi];rfl
theorem Zsc{S:Nat->Prop}{w:World}{xb:Nat}{I:InC}{s:WS}(h:Wd S w xb I s)(hO:I.Ok)(hP:I.P0.length=I.P)(hA:At I (fun _=>I.rg.N) s)(x:Nat)(hx:x<I.rg.n)(n:Nat)(hn:n=I.c.st.toNat+1) :
  Calls prog 32 #[.pointer (some ⟨xb,0,none⟩),.int .i64 x] w fun e w'=>∃A c l,l.length=n/\e=.returned (.slice A n c)/\w'.ownsRow w.heap.size 92 2 (.slice A n c) n (stv I.P I.P l)/\ZcO w' w.heap.size I.P I.P l (trF I)/\Bz0 w w':=by
 obtain⟨own,mbs,lbs,AW,cW,AL,cL,hW,hml,hl,ho⟩:=h;have hn8:I.rg.n<=8:=(InC.pc_ok hO).m2;obtain⟨m,hm⟩:=ZbY (l:=s.mss) (x:=x) (by rw[hA.ml];exact hx);have hr:=ZvD hO hP hA hm;rw[<-hn] at hr;have hlen:m.rcd.length=n:=by rw[hr];simp
 refine(ZjD hW hO I.rg.n x m hml hl hx (by omega) (by have:=ZtW hO;omega) hm (fun i hi=>?_)).mono ?_
 ·rw[hlen] at hi;rw[hr,Zsb I n hi];exact Zey I hP _
 ·rintro e w' ⟨A,c,l,hll,rfl,hown,hos,hb⟩;rw[hlen] at hll hown;refine⟨A,c,l,hll,by rw[hlen],hown,fun i s' hs'=>?_,hb⟩;have hi:i<n:=by rw[<-hll];exact ZbH hs'
  have:=hos i s' hs';rw[hr,Zsb I n hi] at this;exact this
theorem Zpp(A:Option Addr)(n cap:Nat)(c:Cfg)(w:World):Calls prog 74 #[Zsf A n cap c] w fun e w'=>e=.returned (.agg #[.int .i64 c.ra,.int .i64 c.mo,.int .i64 c.sh])/\Bz0 w w':=by
 go_enter func74,ntmps74
 go_wp2_with fail
 (try simp only[Exit.inBlock,Exit.then])
 refine bodyPost_ret (results_cell_row rfl _ _ (w.heap.size+1) _ _ (0,0) _ rfl (Blk.new' _ _ (by simp)) underlying180 rfl (by kernel_rfl)) rfl ?_;exact⟨rfl,(bA0 _).alloc (by simp) _⟩
theorem ZjZ.stay{t u:TypeId}{w w':World}{base n:Nat}{Ao:Option Addr}{E co:Nat}{os:List (List Int)}(h:ZjZ w base n Ao E co os)(hs:Zcx t u w w')(hz:w.heap.size<=w'.heap.size)(h1:22≠t/\22≠u)(h2:3≠t/\3≠u):ZjZ w' base n Ao E co os:=by
 obtain⟨vs,ho,hn⟩:=h.ex;exact⟨vs,hs.own hz ho h1.1 h1.2,⟨hn.len,fun i s l a b=>⟨(hn.row i s l a b).1,hs.own hz (hn.row i s l a b).2 h2.1 h2.2⟩⟩⟩
theorem ZvG{w:World}{g base:Nat}{e:TypeId}{x y:Value}(h:Blk w g e #[x,y])(hb:base<=g):w.ownsRow base e 2 (.slice (some ⟨g,0,none⟩) 1 1) 1 [x,y]:=
 ⟨rfl,.inr ⟨g,1,_,rfl,hb,h,YaF _,by decide,rfl,rfl⟩⟩
def Zxy(base P:Nat)(x0:StS)(f:Nat->List Int×List Int)(t:Nat)(v:Value)(w:World):Prop:=
 ∃(l:List StS) (x:StS) (A:Option Addr) (c k:Nat),l.length=t/\k=t+1/\v=.slice A k c/\w.ownsRow (base+1) 176 2 (.slice A k c) k (stv P P (x0::l))/\ZcO w base P P l f/\Blk w base 176 #[.slice x.1 P x.2.1,.slice x.2.2.1 P x.2.2.2]/\(t=0/\x=x0\/0<t/\l[t-1]?=some x)
abbrev KT(base:Nat)(w w':World):Prop:=Zcx 176 176 w w'/\Below base w w'
def TrV(P:Nat)(bt G:List Int)(j:Nat)(v:Value)(w:World):Prop:=
 (j=5->∃A c,v=.slice A bt.length c/\Rd w 1 A bt.length (iv bt))/\((j=6\/j=7)->∃A c,v=.tuple #[.slice A P c,.bool true]/\Rd w 1 A P (iv G))/\((j=8\/j=10)->∃A c,v=.slice A P c/\Rd w 1 A P (iv G))
theorem TrV.below{P:Nat}{bt G:List Int}{j:Nat}{v:Value}{w w':World}(h:TrV P bt G j v w)(hb:Below w.heap.size w w'):TrV P bt G j v w':=by
 obtain⟨h5,h6,h8⟩:=h;refine⟨fun e=>?_,fun e=>?_,fun e=>?_⟩
 ·obtain⟨A,c,a1,a2⟩:=h5 e;exact⟨A,c,a1,a2.below hb⟩
 ·obtain⟨A,c,a1,a2⟩:=h6 e;exact⟨A,c,a1,a2.below hb⟩
 ·obtain⟨A,c,a1,a2⟩:=h8 e;exact⟨A,c,a1,a2.below hb⟩
section
variable{P:Nat}{bt G:List Int}{w:World}
theorem TrV.v5{A:Option Addr}{c:Nat}(h:Rd w 1 A bt.length (iv bt)):TrV P bt G 5 (.slice A bt.length c) w:=⟨fun _=>⟨A,c,rfl,h⟩,fun e=>by omega,fun e=>by omega⟩
theorem TrV.v6{A:Option Addr}{c j:Nat}(hj:j=6\/j=7)(h:Rd w 1 A P (iv G)):TrV P bt G j (.tuple #[.slice A P c,.bool true]) w:=⟨fun e=>by omega,fun _=>⟨A,c,rfl,h⟩,fun e=>by omega⟩
theorem TrV.v8{A:Option Addr}{c j:Nat}(hj:j=8\/j=10)(h:Rd w 1 A P (iv G)):TrV P bt G j (.slice A P c) w:=⟨fun e=>by omega,fun e=>by omega,fun _=>⟨A,c,rfl,h⟩⟩
theorem TrV.v9{v:Value}{j:Nat}(hj:j=9\/j=11):TrV P bt G j v w:=⟨fun e=>by omega,fun e=>by omega,fun e=>by omega⟩
end
def NxV(P base:Nat)(c:Cfg)(sv:Value)(f:List Int×List Int)(j:Nat)(v:Value)(w:World):Prop:=
 (j=2->v=.agg #[.int .i64 c.ra,.int .i64 c.mo,.int .i64 c.sh])/\(j=3->v=sv) /\
 ((j=5\/j=6)->∃A1 c1 A2 c2,v=.tuple #[.agg #[.slice A1 P c1,.slice A2 P c2],.bool true]/\w.ownsRow base 2 1 (.slice A1 P c1) P (iv f.1)/\w.ownsRow base 2 1 (.slice A2 P c2) P (iv f.2)) /\
 (j=7->∃A1 c1 A2 c2,v=.agg #[.slice A1 P c1,.slice A2 P c2]/\w.ownsRow base 2 1 (.slice A1 P c1) P (iv f.1)/\w.ownsRow base 2 1 (.slice A2 P c2) P (iv f.2))
theorem NxV.move{P base:Nat}{c:Cfg}{sv:Value}{f:List Int×List Int}{j:Nat}{v:Value}{w w':World}(h:NxV P base c sv f j v w)(hr:∀A d l,w.ownsRow base 2 1 (.slice A P d) P (iv l)->w'.ownsRow base 2 1 (.slice A P d) P (iv l)):NxV P base c sv f j v w':=by
 obtain⟨h2,h3,h5,h7⟩:=h;refine⟨h2,h3,fun e=>?_,fun e=>?_⟩
 ·obtain⟨A1,c1,A2,c2,a1,a2,a3⟩:=h5 e;exact⟨A1,c1,A2,c2,a1,hr _ _ _ a2,hr _ _ _ a3⟩
 ·obtain⟨A1,c1,A2,c2,a1,a2,a3⟩:=h7 e;exact⟨A1,c1,A2,c2,a1,hr _ _ _ a2,hr _ _ _ a3⟩
section
variable{P base:Nat}{c:Cfg}{sv:Value}{f:List Int×List Int}{w:World}
theorem NxV.v2:NxV P base c sv f 2 (.agg #[.int .i64 c.ra,.int .i64 c.mo,.int .i64 c.sh]) w:=⟨fun _=>rfl,fun e=>by omega,fun e=>by omega,fun e=>by omega⟩
theorem NxV.v3:NxV P base c sv f 3 sv w:=⟨fun e=>by omega,fun _=>rfl,fun e=>by omega,fun e=>by omega⟩
theorem NxV.v5{A1 A2:Option Addr}{c1 c2 j:Nat}(hj:j=5\/j=6)(h1:w.ownsRow base 2 1 (.slice A1 P c1) P (iv f.1))(h2:w.ownsRow base 2 1 (.slice A2 P c2) P (iv f.2)):NxV P base c sv f j (.tuple #[.agg #[.slice A1 P c1,.slice A2 P c2],.bool true]) w:=⟨fun e=>by omega,fun e=>by omega,fun _=>⟨A1,c1,A2,c2,rfl,h1,h2⟩,fun e=>by omega⟩
theorem NxV.v7{A1 A2:Option Addr}{c1 c2:Nat}(h1:w.ownsRow base 2 1 (.slice A1 P c1) P (iv f.1))(h2:w.ownsRow base 2 1 (.slice A2 P c2) P (iv f.2)):NxV P base c sv f 7 (.agg #[.slice A1 P c1,.slice A2 P c2]) w:=⟨fun e=>by omega,fun e=>by omega,fun e=>by omega,fun _=>⟨A1,c1,A2,c2,rfl,h1,h2⟩⟩
theorem NxV.v8{v:Value}{j:Nat}(hj:j=8\/j=9):NxV P base c sv f j v w:=⟨fun e=>by omega,fun e=>by omega,fun e=>by omega,fun e=>by omega⟩
end
def NxB(W:World)(P base:Nat)(f:List Int×List Int)(X:World):Prop:=
 ∃A1 c1 A2 c2,But (fun i=>i=base) W X/\Blk X base 176 #[.slice A1 P c1,.slice A2 P c2]/\X.ownsRow base 2 1 (.slice A1 P c1) P (iv f.1)/\X.ownsRow base 2 1 (.slice A2 P c2) P (iv f.2)
theorem NxB.below{W X X':World}{P base:Nat}{f:List Int×List Int}(h:NxB W P base f X)(hb:Below X.heap.size X X'):NxB W P base f X':=by
 obtain⟨A1,c1,A2,c2,h1,h2,h3,h4⟩:=h;exact⟨A1,c1,A2,c2,h1.call hb,h2.kept hb,Zac h3 hb,Zac h4 hb⟩
theorem Zcx.of_but{t:TypeId}{b:Nat}{cs:Array Value}{w w':World}(h:But (fun i=>i=b) w w')(hb:Blk w b t cs):Zcx t t w w':=fun g e cs' h1 _ hg=>hg.but h (fun e1=>by
 subst e1;have:=hb.symm.trans hg;injection this with this
 injection this with _ ht
 exact h1 ht.symm)
theorem Zod(I:InC)(hP:I.P0.length=I.P)(t:Nat):trS I (t+1)=(Zf3 I.c.ra I.c.mo I.c.sh (trS I t).1 (trS I t).2 (ZcP (I.mc 0) (trS I t).1 (Zas I.P) (I.bat t)),ZgA I.c.mo I.c.sh (trS I t).2 (ZcP (I.mc 0) (trS I t).1 (Zas I.P) (I.bat t))):=by
 unfold Zf3 ZgA;rw[(Zey I hP t).1,(Zey I hP t).2];rfl
theorem Zsd(I:InC)(hO:I.Ok)(hP:I.P0.length=I.P):∀t,Zaw (trS I t).1/\Zaw (trS I t).2
 |0=>⟨hO.pi,fun x hx=>by
  obtain rfl:=List.eq_of_mem_replicate (show x∈List.replicate I.P 0 from hx);exact⟨by decide,by decide⟩⟩
 |t+1=>by
  rw[Zod I hP];exact⟨ZsN _ _ _ _ _ _ (Zsd I hO hP t).1,ZsO _ _ _ _ (Zsd I hO hP t).2⟩
theorem Zhk(I:InC)(w:World)(hO:I.Ok):Calls prog 18 #[ZtS I] w fun e w'=>e=.returned (.int .i64 I.tot)/\Bz0 w w':=by
 have hK:=hO.mc (x:=0) (by have:=hO.nums.wk;omega);have HPL:=hid (fun W=>ZiH I.A I.n I.cap I.c I.S I.m I.cS I.AP I.P I.cP I.AD I.D I.cD W);have HT:Hid (∀W,Calls prog 69 #[ZnJ I.A I.n I.cap I.c I.P] W fun e w'=>e=.returned (.int .i64 I.tot)/\Bz0 W w'):=hid (fun W=>by
  have h:=ZhT (I.mc 0).pc I.c I.A I.n I.cap I.P W hK.pcok hK.fits rfl
  rwa [ZvE hO] at h)
 have HG:Hid (∀W,w.alloc (.cells (Zr4 I) 29)=W->Below w.heap.size w W):=hid (by
  rintro W rfl;exact bA0 _)
 clear hK hO
 go_enter func18,ntmps18
 go_wp2_with fail;((with_reducible refine(HPL.out _).mono ?_);rintro e w1 ⟨rfl,hb1⟩);have HB0:=hid (HG.out _ rfl);have HB1:=hid (bT0 HB0.out hb1);clear hb1;go_wp2_with fail;((with_reducible refine(HT.out w1).mono ?_);rintro e w2 ⟨rfl,hb2⟩);have HB2:=hid (bT0 HB1.out hb2);clear hb2;go_wp2_with fail;go_ret;exact⟨rfl,HB2.out⟩
theorem Zup:Sl prog 65 176 (.agg #[.slice none 0 0,.slice none 0 0]) 2 48:=⟨underlying65,by kernel_rfl,rfl,by omega⟩
theorem Zpq(A:Option Addr)(n c N:Nat)(l:List StS)(w:World)(hl:l.length=n)(hr:Rd w 2 A n (stv N N l))(hn:n<=1000) :
  Calls prog 76 #[.slice A n c] w fun e w'=>∃A' c',e=.returned (.slice A' n c')/\Rd w' 2 A' n (stv N N l)/\Bz0 w w':=by
 have HL:=hid hl;have HR:=hid hr;clear hl hr
 go_enter func76,ntmps76
 go_wp2_with fail
 go_loopw [3,8] (fun o v wr=>∃(i:Nat) (B:Option Addr) (d:Nat),i<=n/\o=.slice B i d/\v=.int .i64 i/\wr.ownsRow w.heap.size 176 2 (.slice B i d) i (stv N N (l.take i))/\Bz0 w wr) (fun _ v _=>n-(intOf v).toNat)
 case atStart=>exact⟨0,none,0,by omega,rfl,rfl,World.ownsRow_nil _ _ _ _,bR0 _ _⟩
 case round=>
  obtain⟨i,B,d,hi,rfl,rfl,hz,hb⟩:=hrel
  by_cases hlt:i<n
  ·obtain⟨⟨A1,c1,A2,c2⟩,hs4⟩:∃s,l[i]?=some s:=⟨_,YaA (by rw[HL.out];exact hlt)⟩;obtain⟨b5,o5,hA5,l5,q0,q1⟩:=ZgN (HR.out.below hb) hs4 hlt;dsimp only at q0 q1;have htk:l.take (i+1)=l.take i++[(A1,c1,A2,c2)]:=by
    rw[List.take_add_one,hs4];rfl
   have HZ:=hid hz;have HB:=hid hb;have HTK:=hid htk;have HLT:=hid hlt;have r1:(0:Int)<=(i:Int):=by omega
   have r2:(i:Int)<(n:Int):=by omega
   clear hz hb hs4 htk hlt;rw[hA5];clear hA5;go_wp2_with fail;have hw0:Below wr.heap.size wr (wr.alloc (.cells #[.slice A1 N c1,.slice A2 N c2] 92)):=bA0 _;obtain⟨w1,hw1⟩:∃w1,wr.alloc (.cells #[.slice A1 N c1,.slice A2 N c2] 92)=w1:=⟨_,rfl⟩;rw[hw1] at hw0 ⊢;have HB1:=hid (bT0 HB.out hw0);have HZ1:=hid (Zac HZ.out hw0);have HBK:=hid (Zo6 A1 A2 N N c1 c2 w1);clear hw1 hw0;((with_reducible refine HBK.out.mono ?_);rintro e w2 ⟨rfl,hb2⟩);have HB2:=hid (bT0 HB1.out hb2);have HZ2:=hid (Zac HZ1.out hb2);clear hb2
   go_wp2_with (at_builtin;go_must (refine Zaj Zup rfl _ _ rfl w.heap.size (.slice B i d) i (stv N N (l.take i)) rfl HZ2.out #[.slice A1 N c1,.slice A2 N c2] w2.heap.size rfl rfl rfl (ZdP _ _ _ _ _ _) (by unfold maxLen;omega) (by omega) HB2.out.size ?_);go_must (intro A' c' wa hown' hb' hgr' hat'))
   refine⟨⟨i+1,A',c',by have:=HLT.out;omega,rfl,rfl,?_,HB2.out.trans hb'⟩,?_⟩
   ·rw[HTK.out,ZdO];exact hown'
   ·have:=HLT.out;simp[intOf];omega
  ·obtain rfl:i=n:=by omega
   have r2:¬(i:Int)<(i:Int):=by omega
   have HZ:=hid hz;have HB:=hid hb;clear hz hb hlt;go_wp2_with fail;go_ret;refine⟨B,⟨d,rfl⟩,?_,HB.out⟩;have h:=Rd.of_own HZ.out
   rwa [YaX (by rw[HL.out];exact YaF _)] at h
theorem Zlz{S:Nat->Prop}{w:World}{xb:Nat}{J:InC}{s:WS}(h:Wd S w xb J s)(hO:J.Ok)(hP:J.P0.length=J.P)(hA:At J (fun _=>J.rg.N) s)(f:Nat->List Int×List Int)(hf:trF J=f)(N:Nat)(hN:J.P=N)(n:Nat)(hn:n=J.c.st.toNat+1)(AT:Option Addr)(cT:Nat)(l:List StS)(hl:l.length=n)(hrd:Rd w 2 AT n (stv N N l))(hrs:∀i s,l[i]?=some s->Rd w 1 s.1 N (iv (f (i+1)).1)/\Rd w 1 s.2.2.1 N (iv (f (i+1)).2))(wk:Nat)(hwk:J.rg.n=wk) :
  Calls prog 21 #[.pointer (some ⟨xb,0,none⟩),.int .i64 wk,.slice AT n cT] w fun e w'=>e=.returned (.bool true)/\Bz0 w w':=by
 have hst:=hO.st;have hn13:n<=13:=by omega
 have hN60:N<=60:=by rw[<-hN];exact hO.P60
 have hwk8:wk<=8:=by rw[<-hwk];exact(InC.pc_ok hO).m2
 have HT:Hid (∀x W,x<wk->Below w.heap.size w W->Calls prog 32 #[.pointer (some ⟨xb,0,none⟩),.int .i64 x] W fun e w'=>∃A c l,l.length=n/\e=.returned (.slice A n c)/\w'.ownsRow W.heap.size 92 2 (.slice A n c) n (stv N N l)/\ZcO w' W.heap.size N N l f/\Bz0 W w'):=hid (fun x W hx hb=>by
  have:=Zsc (h.below hb) hO hP hA x (by omega) n hn;rw[hN,hf] at this;exact this)
 have HF:Hid (∀i,(f i).1.length=N/\(f i).2.length=N):=hid (fun i=>by rw[<-hf,<-hN];exact Zey J hP _);have HL:=hid hl;have HRD:=hid hrd;have HRS:=hid hrs;clear h hO hP hA hf hN hn hl hrd hrs hwk hst
 go_enter func21,ntmps21
 go_wp2_with fail
 go_loopw [9] (fun v wr=>∃x:Nat,x<=wk/\v=.int .i64 x/\Bz0 w wr) (fun v _=>wk-(intOf v).toNat)
 case atStart=>exact⟨0,by omega,rfl,bR0 _ _⟩
 case round=>
  obtain⟨x,hx,rfl,hb⟩:=hrel
  by_cases hlt:x<wk
  ·have HB:=hid hb;have HLT:=hid hlt;have r2:(x:Int)<(wk:Int):=by omega
   clear hb hlt;go_wp2_with fail;((with_reducible refine(HT.out x wr HLT.out HB.out).mono ?_);rintro e w1 ⟨A1,c1,l1,hl1,rfl,ho1,hos1,hb1⟩);have HB1:=hid (bT0 HB.out hb1);have HL1:=hid hl1;have HO1:=hid (Rd.of_own ho1);have HS1:=hid hos1;clear hl1 ho1 hos1 hb1;go_wp2_with fail;((with_reducible refine(Zpq A1 n c1 N l1 w1 HL1.out HO1.out (by omega)).mono ?_);rintro e w2 ⟨A2,c2,rfl,hr2,hb2⟩);have HB2:=hid (bT0 HB1.out hb2);have HSA:=hid (ZmQ A2 AT n c2 cT N N l1 l f w2 HL1.out HL.out (by omega) hr2 (HRD.out.below HB2.out) (fun i s hs=>⟨Rd.of_own ((HS1.out.below hb2) i s hs).1,Rd.of_own ((HS1.out.below hb2) i s hs).2⟩) (fun i s hs=>⟨(HRS.out i s hs).1.below HB2.out,(HRS.out i s hs).2.below HB2.out⟩) HF.out (by omega) (by omega));clear hr2 hb2;go_wp2_with fail;((with_reducible refine HSA.out.mono ?_);rintro e w3 ⟨rfl,hb3⟩);have HB3:=hid (bT0 HB2.out hb3);clear hb3;go_wp2_with fail;refine⟨⟨x+1,by have:=HLT.out;omega,rfl,HB3.out⟩,?_⟩;have:=HLT.out;simp[intOf];omega
  ·obtain rfl:x=wk:=by omega
   have HB:=hid hb;have r2:¬(x:Int)<(x:Int):=by omega
   clear hb hlt;go_wp2_with fail;go_ret;exact⟨rfl,HB.out⟩
