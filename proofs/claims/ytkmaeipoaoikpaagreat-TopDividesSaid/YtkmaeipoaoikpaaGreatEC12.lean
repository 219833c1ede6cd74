/- Lemmas. -/
import Derived.Test.YtkmaeipoaoikpaaGreatEC11
namespace Go.Proofs.YtkmaeipoaoikpaaGreat
set_option linter.all false
set_option maxRecDepth 100000
set_option maxHeartbeats 4000000
open Lib (hid)
open Go.RowKit
open Tryz
def Zeo(w:World)(base b:Nat)(pc:PlC)(c:Cfg)(A:Option Addr)(n cap:Nat):Prop:=∃Ab cb Ag cg Al cl,base<=b/\Blk w b 238 (ZkG A n cap c Ab pc.nb cb Ag (cnt pc.nb pc.wi) cg (.slice Al pc.m cl)) /\
 w.ownsRow base 218 2 (.slice Ab pc.nb cb) pc.nb (rv pc.bks)/\w.ownsRow base 218 2 (.slice Ag (cnt pc.nb pc.wi) cg) (cnt pc.nb pc.wi) (rv pc.grps)/\w.ownsRow base 3 1 (.slice Al pc.m cl) pc.m (iv pc.lensL)
theorem Zeo.plan{w:World}{base b:Nat}{pc:PlC}{c:Cfg}{A:Option Addr}{n cap:Nat}(h:Zeo w base b pc c A n cap):Zdx w b pc c A n cap:=by
 obtain⟨Ab,cb,Ag,cg,Al,cl,h0,h1,h2,h3,h4⟩:=h;refine⟨Ab,cb,Ag,cg,Al,cl,h1,Rd.of_own h2,Rd.of_own h3,Rd.of_own h4,?_⟩;obtain⟨A',cap',e',h',_⟩:=ZaF h2;injection e' with _ _ e'
 omega
theorem Zeo.mid{w w':World}{base b lo:Nat}{pc:PlC}{c:Cfg}{A:Option Addr}{n cap:Nat}(h:Zeo w base b pc c A n cap)(hm:Mid lo w.heap.size w w')(hl:lo<=base):Zeo w' base b pc c A n cap:=by
 obtain⟨Ab,cb,Ag,cg,Al,cl,h0,h1,h2,h3,h4⟩:=h;exact⟨Ab,cb,Ag,cg,Al,cl,h0,h1.mid hm (by omega),Zbo h2 hm hl,Zbo h3 hm hl,Zbo h4 hm hl⟩
def Zu1(pc:PlC)(c:Cfg)(A:Option Addr)(n cap:Nat)(w:World)(e:Ending)(w':World):Prop:=∃b,e=.returned (.tuple #[.pointer (some ⟨b,0,none⟩),.bool true])/\Zeo w' w.heap.size b pc c A n cap/\Below w.heap.size w w'
section
variable(A:Option Addr)(n cap:Nat)(l:List Int)(c:Cfg)(P:Int)(w:World)
theorem Zji(pc:PlC)(hp:pc.Ok)(hl:l.length=n)(h:Rd w 1 A n (iv l))(hcap:n<=cap)(hn:n<=1000)(hok:ZaO l c=true)(hwk:c.wk=pc.m)(hch:c.ch=pc.ch)(hmi:c.mi=pc.mi)(hwi:c.wi=pc.wi)(hbu:c.bu=pc.bu)(hP:P=pc.P) :
  Calls prog 42 #[Zsf A n cap c,.int .i64 P] w (Zu1 pc c A n cap w):=by
 have HG:Hid (∀W,w.alloc (.cells (ZfL A n cap c) 24)=W->Below w.heap.size w W/\Blk W w.heap.size 24 (ZfL A n cap c)):=hid (by
  rintro W rfl;exact⟨bA0 _,Blk.new _ _ _⟩)
 have HC:=hid (fun W (r:Rd W 1 A n (iv l))=>ZcY A n cap l c W hl r hcap hn);have HR:=hid h;have HBk:=hid (fun W=>Zmo pc.P pc.bu W hp.p1 (by have:=hp.p2;omega) hp.b1 (by have:=hp.b2;omega));have HGr:=hid (fun W=>ZoE pc.nb pc.wi W (PlC.nb_pos hp) (by have:=PlC.nb_le hp;omega) hp.w1 (by have:=hp.w2;omega));have HIt:=hid (fun Ab cb Ag cg (x:Int) W h1 h2=>ZgM pc c A n cap Ab cb Ag cg x 0 W hp hwk hch hmi h1 h2);have HLe:=hid (fun x:Int=>PlC.itemsI_le hp x 0);have HP2:=hid hp.p2;have HP1:=hid hp.p1;have hm8:=hp.m2;have HOK:=hid hok;have HLA:=hid (fun k (h:k<pc.m)=>pc.lensL_at k h);have HLL:=hid pc.lensL_length;obtain⟨sh,ra,mo,wk,ba,mi,st,bu,ch,wi,ca⟩:=c;simp only at hwk hch hmi hwi hbu;subst hwk hch hmi hwi hbu hP;obtain⟨m,hm⟩:∃m,pc.m=m:=⟨_,rfl⟩;obtain⟨nb,hnb⟩:∃nb,pc.nb=nb:=⟨_,rfl⟩;obtain⟨ng,hng⟩:∃ng,cnt pc.nb pc.wi=ng:=⟨_,rfl⟩;obtain⟨P,hP⟩:∃P,pc.P=P:=⟨_,rfl⟩;obtain⟨bu,hbu⟩:∃P,pc.bu=P:=⟨_,rfl⟩;obtain⟨wi,hwi⟩:∃P,pc.wi=P:=⟨_,rfl⟩;obtain⟨mi,hmi⟩:∃P,pc.mi=P:=⟨_,rfl⟩;obtain⟨ch,hch⟩:∃P,pc.ch=P:=⟨_,rfl⟩;have eb:Zbc pc.P pc.bu=pc.bks:=rfl;have eg:Zat pc.nb pc.wi=pc.grps:=rfl;have en:cnt pc.P pc.bu=pc.nb:=rfl;rw[eb,en] at HBk;rw[eg] at HGr;have HPA:Hid (∀W b Ab cb Ag cg Al cl,w.heap.size<=b->Blk W b 238 (ZkG A n cap ⟨sh,ra,mo,m,ba,mi,st,bu,ch,wi,ca⟩ Ab nb cb Ag ng cg (.slice Al m cl))->W.ownsRow w.heap.size 218 2 (.slice Ab nb cb) nb (rv pc.bks)->W.ownsRow w.heap.size 218 2 (.slice Ag ng cg) ng (rv pc.grps)->W.ownsRow w.heap.size 3 1 (.slice Al m cl) m (iv pc.lensL)->Zeo W w.heap.size b pc ⟨sh,ra,mo,m,ba,mi,st,bu,ch,wi,ca⟩ A n cap):=hid (by
  intro W b Ab cb Ag cg Al cl h0 h1 h2 h3 h4;subst hm hnb hng;exact⟨Ab,cb,Ag,cg,Al,cl,h0,h1,h2,h3,h4⟩)
 rw[hng] at HGr HIt;rw[hnb] at HBk HIt HGr;rw[hm] at HIt HLA HLL hm8 HG HC HOK;rw[hP,hbu] at HBk;rw[hP] at HP1 HP2;rw[hwi] at HIt HG HC HGr HOK;rw[hbu] at HIt HG HC HOK;rw[hmi] at HIt HG HC HOK;rw[hch] at HIt HG HC HOK;rw[hP,hbu,hwi,hmi,hch,hm];have hp1:=HP1.out;have hp2:=HP2.out;have z1:decide ((P:Int)<1)=false:=YaI (by omega);have z2:decide ((1048576:Int)<(P:Int))=false:=YaI (by omega);clear hl h eb eg en hok hp hP hbu hwi hmi hch hm hnb hng
 go_enter func42,ntmps42
 go_wp2_with fail;obtain⟨w0,hw0⟩:∃w0,w.alloc (.cells (ZfL A n cap ⟨sh,ra,mo,m,ba,mi,st,bu,ch,wi,ca⟩) 24)=w0:=⟨_,rfl⟩;obtain⟨hB,hK⟩:=HG.out _ hw0;rw[hw0];clear hw0 HG;obtain⟨bc,hbc⟩:∃bc,w.heap.size=bc:=⟨_,rfl⟩;rw[hbc] at hK ⊢;have HBC:=hid hbc;((with_reducible refine(HC.out _ (HR.out.below hB)).mono ?_);rintro e w1 ⟨cd,rfl,hcd,hb1⟩);have h0:cd=0:=hcd.2 HOK.out;subst h0;have k1:=hK.kept hb1;have HK1:=hid k1;have HB1:=hid (bT0 hB hb1);have c8:w1.cell? ⟨bc,8,none⟩=some (.int .i64 bu):=k1.cell 8;have lc:=k1.lt;clear hB hK hb1 hcd HC k1 hbc;go_wp2_with fail;((with_reducible refine(HBk.out _).mono ?_);rintro e w2 ⟨Ab,cb,rfl,hown2,hb2⟩);have k2:=HK1.out.kept hb2;have HK2:=hid k2;have HB2:=hid (bT0 HB1.out hb2);have HO2:=hid (Zae hown2 HB1.out.size);obtain⟨s0,s1,s2,s3,s4,s5,s6,s7,s8,s9,s10,s11⟩:=cl12 k2;have lc2:=k2.lt;clear hown2 hb2 k2 c8 lc HB1 HK1;go_wp2_with fail;refine Zad (Zag w2) [0,1,2,3,4,5] [6] [7,8,9,10] (by kernel_rfl) (by kernel_rfl) (Zag.start w2) ?_;simp only[YaO,YaP,YaB,YaC];refine Zaa (Zsf A n cap ⟨sh,ra,mo,m,ba,mi,st,bu,ch,wi,ca⟩) rfl (fun W hW=>?_) ?_
 ·obtain⟨hc,-,-⟩:=hW;go_simp
 go_simp;refine Zaa (.slice Ab nb cb) rfl (fun W hW=>?_) ?_
 ·obtain⟨hc,-,-⟩:=hW;go_simp
 go_simp;refine Zaa (.slice Ab nb cb) rfl (fun W hW=>?_) ?_
 ·obtain⟨hc,-,-⟩:=hW;go_simp
 go_simp;refine Zaa (.int .i64 nb) rfl (fun W hW=>?_) ?_
 ·obtain⟨hc,-,-⟩:=hW;go_simp
 go_simp;refine Zaa (.pointer (some ⟨bc,10,none⟩)) rfl (fun W hW=>?_) ?_
 ·obtain⟨hc,-,-⟩:=hW;go_simp
 go_simp;refine Zaa (.int .i64 wi) rfl (fun W hW=>?_) ?_
 ·obtain⟨hc,-,-⟩:=hW;go_simp
 go_simp;change Zah _ _ _ _ _ (_::[]) _ _;unfold Zah;go_wp2_with fail;((with_reducible refine(HGr.out _).mono ?_);rintro e w3 ⟨Ag,cg,rfl,hown3,hb3⟩);have hb3':Below w2.heap.size w2 w3:=((Zag.start w2).call hb3).2.2;have HO3:=hid (Zae hown3 (show w.heap.size<=_ from HB2.out.size));have HO2':=hid (Zac HO2.out hb3');have HB3:=hid (bT0 HB2.out hb3');have HK3:=hid (HK2.out.kept hb3');have HKe:=hid (Zag.of hb3');clear hown3 hb3 hb3' s0 s1 s2 s3 s4 s5 s6 s7 s8 s9 s10 s11 lc2 HO2 HB2 HK2;go_wp2_with fail;refine⟨HKe.out,?_⟩;unfold Zah;change wpList _ _ _ (_::_::_::_::[]) _ _;have HPB:Hid (∀W,w3.alloc (.cells (ZkG A n cap ⟨sh,ra,mo,m,ba,mi,st,bu,ch,wi,ca⟩ Ab nb cb Ag ng cg (.slice none 0 0)) 238)=W->Below w3.heap.size w3 W/\Blk W w3.heap.size 238 (ZkG A n cap ⟨sh,ra,mo,m,ba,mi,st,bu,ch,wi,ca⟩ Ab nb cb Ag ng cg (.slice none 0 0))):=hid (by
  rintro W rfl;exact⟨bA0 _,Blk.new _ _ _⟩)
 go_wp2_with fail;refine NoPanic.normal ?_;obtain⟨w4,hw4⟩:∃w4,w3.alloc (.cells (ZkG A n cap ⟨sh,ra,mo,m,ba,mi,st,bu,ch,wi,ca⟩ Ab nb cb Ag ng cg (.slice none 0 0)) 238)=w4:=⟨_,rfl⟩;obtain⟨hb4,hp4⟩:=HPB.out _ hw4;rw[hw4];obtain⟨bp,hbp⟩:∃bp,w3.heap.size=bp:=⟨_,rfl⟩;have hwbp:w.heap.size<=bp:=by rw[<-hbp];exact HB3.out.size
 rw[hbp] at hp4 ⊢;have HP4:=hid hp4;have HB4:=hid (bT0 HB3.out hb4);have HK4:=hid (HK3.out.kept hb4);have HRb4:=hid (Zac HO2'.out hb4);have HRg4:=hid (Zac HO3.out hb4);have c4:w4.cell? ⟨bc,4,none⟩=some (.int .i64 m):=HK4.out.cell 4;have lc:=HK4.out.lt;have hcb:nb<=cb:=by
  obtain⟨A',cap',e',h',_⟩:=ZaF HO2'.out;injection e' with _ _ e'
  omega
 have hlb:=hp4.lt;clear hw4 hp4 hb4 hbp HPB HO2' HO3 HKe HB3 HK3
 as_aux_lemma=>
  go_wp2_with fail;clear c4 lc hlb
  go_loopw [36] (fun v wr=>∃k Al cl,k<=m/\v=.int .i64 k/\Blk wr bp 238 (ZkG A n cap ⟨sh,ra,mo,m,ba,mi,st,bu,ch,wi,ca⟩ Ab nb cb Ag ng cg (.slice Al k cl))/\wr.ownsRow w.heap.size 3 1 (.slice Al k cl) k (iv (pc.lensL.take k))/\Below w.heap.size w wr/\wr.ownsRow w.heap.size 218 2 (.slice Ab nb cb) nb (rv pc.bks)/\wr.ownsRow w.heap.size 218 2 (.slice Ag ng cg) ng (rv pc.grps)) (fun v _=>m-(intOf v).toNat)
  case atStart=>exact⟨0,none,0,by omega,rfl,HP4.out,by simpa [iv] using World.ownsRow_nil w4 w.heap.size 3 1,HB4.out,HRb4.out,HRg4.out⟩
  case round=>
   obtain⟨k,Al,cl,hk,rfl,hbk,hown,hb,hrb,hrg⟩:=hrel
   by_cases hlt:k<m
   ·as_aux_lemma=>
     have HBK:=hid hbk;have HO:=hid hown;have HB:=hid hb;have HRB:=hid hrb;have HRG:=hid hrg;have HI:=hid (fun W h1 h2=>HIt.out Ab cb Ag cg k W h1 h2);have hle:=HLe.out k;have HLK:=hid (HLA.out k hlt);obtain⟨q,hq⟩:∃q,(pc.itemsI (k:Int) 0).length=q:=⟨_,rfl⟩;rw[hq] at HI hle HLK;have hz:w.heap.size<=wr.heap.size:=hb.size;clear hbk hown hb hrb hrg hq;have i1:(k:Int)<(m:Int):=by omega
     go_wp2_with fail;refine Zad (fun W:World=>Blk W bp 238 (ZkG A n cap ⟨sh,ra,mo,m,ba,mi,st,bu,ch,wi,ca⟩ Ab nb cb Ag ng cg (.slice Al k cl))) [0,1,2,3,4,5,6,7,8,9] [10,11,12,13] [14,15,16] (by kernel_rfl) (by kernel_rfl) HBK.out.drew ?_;simp only[YaO,YaP,YaB,YaC];refine Zaa (.pointer (some ⟨bp,0,none⟩)) rfl (fun W hW=>?_) ?_
     ·have h14:=hW.cell 14;have h0:=hW.cell 0;have h1:=hW.cell 1;have h2:=hW.cell 2;have h3:=hW.cell 3;have h4:=hW.cell 4;have h5:=hW.cell 5;have h6:=hW.cell 6;have h7:=hW.cell 7;have h8:=hW.cell 8;have h9:=hW.cell 9;have h10:=hW.cell 10;have h11:=hW.cell 11;have h12:=hW.cell 12;have h13:=hW.cell 13;go_simp
     go_simp;refine Zaa (.pointer (some ⟨bp,0,none⟩)) rfl (fun W hW=>?_) ?_
     ·have h14:=hW.cell 14;have h0:=hW.cell 0;have h1:=hW.cell 1;have h2:=hW.cell 2;have h3:=hW.cell 3;have h4:=hW.cell 4;have h5:=hW.cell 5;have h6:=hW.cell 6;have h7:=hW.cell 7;have h8:=hW.cell 8;have h9:=hW.cell 9;have h10:=hW.cell 10;have h11:=hW.cell 11;have h12:=hW.cell 12;have h13:=hW.cell 13;go_simp
     go_simp;refine Zaa (.pointer (some ⟨bp,0,none⟩)) rfl (fun W hW=>?_) ?_
     ·have h14:=hW.cell 14;have h0:=hW.cell 0;have h1:=hW.cell 1;have h2:=hW.cell 2;have h3:=hW.cell 3;have h4:=hW.cell 4;have h5:=hW.cell 5;have h6:=hW.cell 6;have h7:=hW.cell 7;have h8:=hW.cell 8;have h9:=hW.cell 9;have h10:=hW.cell 10;have h11:=hW.cell 11;have h12:=hW.cell 12;have h13:=hW.cell 13;go_simp
     go_simp;refine Zaa (.pointer (some ⟨bp,14,none⟩)) rfl (fun W hW=>?_) ?_
     ·have h14:=hW.cell 14;have h0:=hW.cell 0;have h1:=hW.cell 1;have h2:=hW.cell 2;have h3:=hW.cell 3;have h4:=hW.cell 4;have h5:=hW.cell 5;have h6:=hW.cell 6;have h7:=hW.cell 7;have h8:=hW.cell 8;have h9:=hW.cell 9;have h10:=hW.cell 10;have h11:=hW.cell 11;have h12:=hW.cell 12;have h13:=hW.cell 13;go_simp
     go_simp;refine Zaa (.slice Al k cl) rfl (fun W hW=>?_) ?_
     ·have h14:=hW.cell 14;have h0:=hW.cell 0;have h1:=hW.cell 1;have h2:=hW.cell 2;have h3:=hW.cell 3;have h4:=hW.cell 4;have h5:=hW.cell 5;have h6:=hW.cell 6;have h7:=hW.cell 7;have h8:=hW.cell 8;have h9:=hW.cell 9;have h10:=hW.cell 10;have h11:=hW.cell 11;have h12:=hW.cell 12;have h13:=hW.cell 13;go_simp
     go_simp;refine Zaa (.pointer (some ⟨bp,0,none⟩)) rfl (fun W hW=>?_) ?_
     ·have h14:=hW.cell 14;have h0:=hW.cell 0;have h1:=hW.cell 1;have h2:=hW.cell 2;have h3:=hW.cell 3;have h4:=hW.cell 4;have h5:=hW.cell 5;have h6:=hW.cell 6;have h7:=hW.cell 7;have h8:=hW.cell 8;have h9:=hW.cell 9;have h10:=hW.cell 10;have h11:=hW.cell 11;have h12:=hW.cell 12;have h13:=hW.cell 13;go_simp
     go_simp;refine Zaa (.pointer (some ⟨bp,0,none⟩)) rfl (fun W hW=>?_) ?_
     ·have h14:=hW.cell 14;have h0:=hW.cell 0;have h1:=hW.cell 1;have h2:=hW.cell 2;have h3:=hW.cell 3;have h4:=hW.cell 4;have h5:=hW.cell 5;have h6:=hW.cell 6;have h7:=hW.cell 7;have h8:=hW.cell 8;have h9:=hW.cell 9;have h10:=hW.cell 10;have h11:=hW.cell 11;have h12:=hW.cell 12;have h13:=hW.cell 13;go_simp
     go_simp;refine Zaa (.pointer (some ⟨bp,0,none⟩)) rfl (fun W hW=>?_) ?_
     ·have h14:=hW.cell 14;have h0:=hW.cell 0;have h1:=hW.cell 1;have h2:=hW.cell 2;have h3:=hW.cell 3;have h4:=hW.cell 4;have h5:=hW.cell 5;have h6:=hW.cell 6;have h7:=hW.cell 7;have h8:=hW.cell 8;have h9:=hW.cell 9;have h10:=hW.cell 10;have h11:=hW.cell 11;have h12:=hW.cell 12;have h13:=hW.cell 13;go_simp
     go_simp;refine Zaa (Zw9 A n cap ⟨sh,ra,mo,m,ba,mi,st,bu,ch,wi,ca⟩ Ab nb cb Ag ng cg) rfl (fun W hW=>?_) ?_
     ·have h14:=hW.cell 14;have h0:=hW.cell 0;have h1:=hW.cell 1;have h2:=hW.cell 2;have h3:=hW.cell 3;have h4:=hW.cell 4;have h5:=hW.cell 5;have h6:=hW.cell 6;have h7:=hW.cell 7;have h8:=hW.cell 8;have h9:=hW.cell 9;have h10:=hW.cell 10;have h11:=hW.cell 11;have h12:=hW.cell 12;have h13:=hW.cell 13;go_simp
     go_simp;refine Zaa (.int .i64 k) rfl (fun W hW=>?_) ?_
     ·have h14:=hW.cell 14;have h0:=hW.cell 0;have h1:=hW.cell 1;have h2:=hW.cell 2;have h3:=hW.cell 3;have h4:=hW.cell 4;have h5:=hW.cell 5;have h6:=hW.cell 6;have h7:=hW.cell 7;have h8:=hW.cell 8;have h9:=hW.cell 9;have h10:=hW.cell 10;have h11:=hW.cell 11;have h12:=hW.cell 12;have h13:=hW.cell 13;go_simp
     go_simp;change Zah _ _ _ _ _ (_::_::_::_::[]) _ _;unfold Zah;go_wp2_with fail;((with_reducible refine(HI.out _ (Rd.of_own (Zac HRB.out (bR0 _ _).drew)) (Rd.of_own (Zac HRG.out (bR0 _ _).drew))).mono ?_);rintro e w5 ⟨A5,c5,rfl,hown5,hb5⟩);have hb5':Below wr.heap.size wr w5:=((Zag.start wr).call hb5).2.2;have HBK5:=hid (HBK.out.kept hb5');have HO5:=hid (Zac HO.out hb5');have HB5:=hid (HB.out.trans (hb5'.mono hz));have HRB5:=hid (Zac HRB.out hb5');have HRG5:=hid (Zac HRG.out hb5');have HB55:=hid hb5';clear hown5 hb5 hb5';have hz5:=HB5.out.size;go_wp2_with fail;refine⟨HBK5.out,?_⟩;unfold Zah;go_wp2_with fail;refine⟨HBK5.out,?_⟩;unfold Zah;go_wp2_with fail;refine⟨HBK5.out.alloc _,?_⟩;unfold Zah;change wpList _ _ _ (_::[]) _ (w5.alloc (.cells #[.int .i64 q] 3))
     go_wp2_with (at_builtin;go_must (refine Zaj Zhr rfl _ _ rfl w.heap.size (.slice Al k cl) k (iv (pc.lensL.take k)) rfl HO5.out #[.int .i64 q] w5.heap.size rfl rfl rfl (Zs9 _) (by unfold maxLen;omega) (by omega) hz5 ?_);intro A6 c6 w6 hown6 hb6 hg6 hat6)
     have HBK6:=hid (HBK5.out.other HO5.out hg6 (by decide));have HO6:=hid hown6;have HB6:=hid (HB5.out.trans hb6);have HSI:=Zcx.of_own' (u:=238) HO5.out hg6;have HRB6:=hid (HSI.own hg6.size HRB5.out (by decide) (by decide));have HRG6:=hid (HSI.own hg6.size HRG5.out (by decide) (by decide));clear hown6 hb6 hg6 hat6 HSI;refine⟨HBK6.out,?_⟩;unfold Zah;change wpList _ _ _ (_::_::_::[]) _ _;have v1:w6.cell? ⟨bp,14,none⟩=some (.slice Al k cl):=HBK6.out.cell 14;have f1:=HBK6.out.frozen 14;have l6:=HBK6.out.lt;go_wp2_with fail;refine NoPanic.normal ?_;have HST:=hid (Zv5 HBK6.out (.slice A6 (k+1) c6));clear v1 f1;go_wp2_with fail
     go_roundw
     case rel=>
      refine⟨k+1,A6,c6,by omega,by go_num,HST.out.2,?_,Zai HB6.out HB6.out.size HST.out.1 hwbp,HRB6.out.kept HST.out.1 (.inr (Zab HRB6.out HBK6.out (by decide))),HRG6.out.kept HST.out.1 (.inr (Zab HRG6.out HBK6.out (by decide)))⟩;have hk':pc.lensL.take (k+1)=pc.lensL.take k++[(q:Int)]:=by
       have hlt':k<pc.lensL.length:=by rw[HLL.out];exact hlt
       rw[Zbd _ _ hlt'];have:=HLK.out;rw[YaA hlt'] at this;injection this with this
       rw[this]
      rw[hk',show iv (pc.lensL.take k++[(q:Int)])=iv (pc.lensL.take k)++[.int .i64 q] by simp[iv]];exact HO6.out.kept HST.out.1 (.inr (Zab HO6.out HBK6.out (by decide)))
     case measure=>simp[intOf];omega
   ·obtain rfl:k=m:=by omega
    have HPA1:=hid (HPA.out wr bp Ab cb Ag cg Al cl hwbp hbk hrb hrg (by
     have:=hown
     rwa [YaX (by rw[HLL.out];omega)] at this))
    have HB:=hid hb;clear hbk hown hb hrb hrg;go_wp2_with fail
    go_ret2
    exact⟨bp,rfl,HPA1.out,HB.out⟩
end
def Zv6(w:World)(N M:Nat)(Ps Ms:List Int)(en:Ending)(w':World):Prop:=
 ∃AP cP AM cM,en=.returned (.agg #[.slice AP N cP,.slice AM M cM])/\w'.ownsRow w.heap.size 2 1 (.slice AP N cP) N (iv Ps)/\w'.ownsRow w.heap.size 2 1 (.slice AM M cM) M (iv Ms) /\
  (∀g h,(Value.slice AP N cP).ownBlock=some g->(Value.slice AM M cM).ownBlock=some h->g<h)/\Below w.heap.size w w'
theorem Zdy(A B:Option Addr)(N M c d:Nat)(Ps Ms:List Int)(w:World)(hPl:Ps.length=N)(hMl:Ms.length=M)(hP:Rd w 1 A N (iv Ps))(hM:Rd w 1 B M (iv Ms))(hN:N<=1000000)(hM':M<=1000000) :
  Calls prog 45 #[.agg #[.slice A N c,.slice B M d]] w (Zv6 w N M Ps Ms):=by
 have HPL:=hid hPl;have HML:=hid hMl;have HP:=hid hP;have HM:=hid hM;clear hPl hMl hP hM
 go_enter func45,ntmps45
 go_wp2_with fail;obtain⟨w0,hw0⟩:∃w0,(w.alloc (.cells #[.slice A N c,.slice B M d] 92)).alloc (.cells #[.slice none 0 0,.slice none 0 0] 92)=w0:=⟨_,rfl⟩;have k0:Below w.heap.size w w0:=by rw[<-hw0];exact(bA0 _).alloc (by simp) _
 have hA0:Blk w0 w.heap.size 92 #[.slice A N c,.slice B M d]:=by rw[<-hw0];exact(Blk.new w _ _).alloc _
 have hR0:Blk w0 (w.heap.size+1) 92 #[.slice none 0 0,.slice none 0 0]:=by rw[<-hw0];exact Blk.new' _ _ (by simp)
 rw[hw0];clear hw0;have s0:(w0.drew.cell? ⟨w.heap.size,0,none⟩=some (.slice A N c)/\w0.drew.cell? ⟨w.heap.size,1,none⟩=some (.slice B M d))/\Below w.heap.size w w0.drew:=⟨⟨hA0.cell 0,hA0.cell 1⟩,k0.drew⟩;have HA0:=hid hA0;have HR0:=hid hR0;have HC1:=hid (fun W (hb:Below w.heap.size w W)=>Za0 A N c Ps W HPL.out (HP.out.below hb) (by omega));have HC2:=hid (fun W (hb:Below w.heap.size w W)=>Za0 B M d Ms W HML.out (HM.out.below hb) (by omega));clear hA0 hR0 k0
 go_region_held3 (fun w'=>(w'.cell? ⟨w.heap.size,0,none⟩=some (.slice A N c)/\w'.cell? ⟨w.heap.size,1,none⟩=some (.slice B M d))/\Below w.heap.size w w') (first|exact s0|exact s1|exact s2|exact s3) (first
  | (go_at_call 107;(with_reducible refine(HC1.out w0.drew s0.2).mono ?_);rintro e w1 ⟨A1,c1,rfl,hown1,hb1⟩;have HA1:=hid (HA0.out.drew.kept hb1);have HR1:=hid (HR0.out.drew.kept hb1);have s1:(w1.cell? ⟨w.heap.size,0,none⟩=some (.slice A N c)/\w1.cell? ⟨w.heap.size,1,none⟩=some (.slice B M d))/\Below w.heap.size w w1:=⟨⟨HA1.out.cell 0,HA1.out.cell 1⟩,((Zag.of s0.2).call hb1).2.2⟩;have HO1:=hid hown1;clear hown1 hb1)
  | (go_at_call 107;(with_reducible refine(HC2.out w1 s1.2).mono ?_);rintro e w2 ⟨A2,c2,rfl,hown2,hb2⟩;have HA2:=hid (HA1.out.kept hb2);have HR2:=hid (HR1.out.kept hb2);have s2:(w2.cell? ⟨w.heap.size,0,none⟩=some (.slice A N c)/\w2.cell? ⟨w.heap.size,1,none⟩=some (.slice B M d))/\Below w.heap.size w w2:=⟨⟨HA2.out.cell 0,HA2.out.cell 1⟩,((Zag.of s1.2).call hb2).2.2⟩;have HO2:=hid hown2;have HO12:=hid (Zac HO1.out hb2);have d0:w2.cell? ⟨w.heap.size+1,0,none⟩=some (.slice none 0 0):=HR2.out.cell 0;have d1:w2.cell? ⟨w.heap.size+1,1,none⟩=some (.slice none 0 0):=HR2.out.cell 1;have f0:=HR2.out.frozen 0;have f1:=HR2.out.frozen 1;have s3:(((w2.setCell ⟨w.heap.size+1,0,none⟩ (.slice A1 N c1)).setCell ⟨w.heap.size+1,1,none⟩ (.slice A2 M c2)).cell? ⟨w.heap.size,0,none⟩=some (.slice A N c)/\((w2.setCell ⟨w.heap.size+1,0,none⟩ (.slice A1 N c1)).setCell ⟨w.heap.size+1,1,none⟩ (.slice A2 M c2)).cell? ⟨w.heap.size,1,none⟩=some (.slice B M d))/\Below w.heap.size w ((w2.setCell ⟨w.heap.size+1,0,none⟩ (.slice A1 N c1)).setCell ⟨w.heap.size+1,1,none⟩ (.slice A2 M c2)):=⟨⟨(HA2.out.grown (Za9 HR2.out _ _).1 (by simp)).cell 0,(HA2.out.grown (Za9 HR2.out _ _).1 (by simp)).cell 1⟩,Zai s2.2 s2.2.size (Za9 HR2.out _ _).1 (by omega)⟩;clear hown2 hb2))
 go_wp2;have hst:=Za9 HR2.out (.slice A1 N c1) (.slice A2 M c2);refine bodyPost_ret (v:=.agg #[.slice A1 N c1,.slice A2 M c2]) (by simp[results,results45,go_sem,d0,d1]) rfl ⟨A1,c1,A2,c2,rfl,?_,?_,fun g h hg hh=>?_,s3.2⟩
 ·exact Zae (HO12.out.kept hst.1 (.inr (Zab HO12.out HR2.out (by decide)))) s0.2.size
 ·exact Zae (HO2.out.kept hst.1 (.inr (Zab HO2.out HR2.out (by decide)))) s1.2.size
 ·have h1:=(HO1.out.lt g hg).2;have h2:=(HO2.out.lt h hh).1;omega
theorem Zv7:Sl prog 26 2 (.int .i64 0) 1 8:=⟨underlying26,by kernel_rfl,rfl,by omega⟩
theorem Zep(A:Option Addr)(n cap:Nat)(l:List Int)(w:World)(hl:l.length=n)(h:Rd w 1 A n (iv l))(hn:n<=10000000) :
  Calls prog 181 #[.slice A n cap] w (Zal w 2 1 n (iv l)):=by
 have HR:=hid h;have HL:=hid hl;have hq:=fun(w:World) (a:Option Addr) (n c:Nat)=>Lib.run_eql_slice_nil (P:=prog) w 26 2 a n c 0 0 underlying26
 clear h hl
 cases A with
 |none=>
  have hn0:n=0:=by
   rcases Nat.eq_zero_or_pos n with h0|h0
   ·exact h0
   ·obtain⟨b,o,h,_⟩:=HR.out.2 h0;cases h
  subst hn0;have hl0:l=[]:=List.eq_nil_of_length_eq_zero HL.out;subst hl0
  go_enter func181,ntmps181
  go_wp2;go_ret;exact⟨none,0,rfl,World.ownsRow_nil _ _ _ _,bR0 _ _⟩
 |some ad=>
  go_enter func181,ntmps181
  go_wp2_with (at_builtin;go_must (refine Za5 Zv7 rfl _ _ rfl w.heap.size _ 0 [] rfl (World.ownsRow_lit w #[] 0 (YaF _) (by unfold maxLen;omega) rfl) (some ad) n cap (iv l) rfl (HR.out.alloc _) (Znm l) (by unfold maxLen;omega) (by omega) (by simp) ?_);intro A' cap' w1 hown1 hb1)
  go_ret;exact⟨A',cap',by simp,by simpa using hown1,(bA0 _).trans hb1⟩
theorem Zxq:Sl prog 25 162 (.agg #[.slice none 0 0,.slice none 0 0]) 2 48:=⟨underlying25,by kernel_rfl,rfl,by omega⟩
def RdS(w:World)(N M:Nat)(l:List StS)(f:Nat->List Int×List Int):Prop:=∀i s,l[i]?=some s->Rd w 1 s.1 N (iv (f (i+1)).1)/\Rd w 1 s.2.2.1 M (iv (f (i+1)).2)
theorem RdS.below{w w':World}{N M:Nat}{l:List StS}{f:Nat->List Int×List Int}(h:RdS w N M l f)(hb:Below w.heap.size w w'):RdS w' N M l f:=fun i s hs=>⟨(h i s hs).1.below hb,(h i s hs).2.below hb⟩
theorem ZcO.rd{w:World}{base N M:Nat}{l:List StS}{f:Nat->List Int×List Int}(h:ZcO w base N M l f):RdS w N M l f:=fun i s hs=>⟨Rd.of_own (h i s hs).1,Rd.of_own (h i s hs).2⟩
theorem ZcO.mid{w w':World}{base N M lo:Nat}{l:List StS}{f:Nat->List Int×List Int}(h:ZcO w base N M l f)(hm:Mid lo w.heap.size w w')(hl:lo<=base):ZcO w' base N M l f:=fun i s hs=>⟨Zbo (h i s hs).1 hm hl,Zbo (h i s hs).2 hm hl⟩
theorem Zis(A B:Option Addr)(N M c d:Nat)(Ps Ms:List Int)(w:World)(hPl:Ps.length=N)(hMl:Ms.length=M)(hP:Rd w 1 A N (iv Ps))(hM:Rd w 1 B M (iv Ms))(hN:N<=1000000)(hM':M<=1000000) :
  Calls prog 106 #[.agg #[.slice A N c,.slice B M d]] w (Zv6 w N M Ps Ms):=by
 have HPL:=hid hPl;have HML:=hid hMl;have HP:=hid hP;have HM:=hid hM;clear hPl hMl hP hM
 go_enter func106,ntmps106
 go_wp2_with fail;obtain⟨w0,hw0⟩:∃w0,(w.alloc (.cells #[.slice A N c,.slice B M d] 162)).alloc (.cells #[.slice none 0 0,.slice none 0 0] 162)=w0:=⟨_,rfl⟩;have k0:Below w.heap.size w w0:=by rw[<-hw0];exact(bA0 _).alloc (by simp) _
 have hA0:Blk w0 w.heap.size 162 #[.slice A N c,.slice B M d]:=by rw[<-hw0];exact(Blk.new w _ _).alloc _
 have hR0:Blk w0 (w.heap.size+1) 162 #[.slice none 0 0,.slice none 0 0]:=by rw[<-hw0];exact Blk.new' _ _ (by simp)
 rw[hw0];clear hw0;have s0:(w0.drew.cell? ⟨w.heap.size,0,none⟩=some (.slice A N c)/\w0.drew.cell? ⟨w.heap.size,1,none⟩=some (.slice B M d))/\Below w.heap.size w w0.drew:=⟨⟨hA0.cell 0,hA0.cell 1⟩,k0.drew⟩;have HA0:=hid hA0;have HR0:=hid hR0;have HC1:=hid (fun W (hb:Below w.heap.size w W)=>Zep A N c Ps W HPL.out (HP.out.below hb) (by omega));have HC2:=hid (fun W (hb:Below w.heap.size w W)=>Zep B M d Ms W HML.out (HM.out.below hb) (by omega));clear hA0 hR0 k0
 go_region_held3 (fun w'=>(w'.cell? ⟨w.heap.size,0,none⟩=some (.slice A N c)/\w'.cell? ⟨w.heap.size,1,none⟩=some (.slice B M d))/\Below w.heap.size w w') (first|exact s0|exact s1|exact s2|exact s3) (first
  | (go_at_call 181;(with_reducible refine(HC1.out w0.drew s0.2).mono ?_);rintro e w1 ⟨A1,c1,rfl,hown1,hb1⟩;have HA1:=hid (HA0.out.drew.kept hb1);have HR1:=hid (HR0.out.drew.kept hb1);have s1:(w1.cell? ⟨w.heap.size,0,none⟩=some (.slice A N c)/\w1.cell? ⟨w.heap.size,1,none⟩=some (.slice B M d))/\Below w.heap.size w w1:=⟨⟨HA1.out.cell 0,HA1.out.cell 1⟩,((Zag.of s0.2).call hb1).2.2⟩;have HO1:=hid hown1;clear hown1 hb1)
  | (go_at_call 181;(with_reducible refine(HC2.out w1 s1.2).mono ?_);rintro e w2 ⟨A2,c2,rfl,hown2,hb2⟩;have HA2:=hid (HA1.out.kept hb2);have HR2:=hid (HR1.out.kept hb2);have s2:(w2.cell? ⟨w.heap.size,0,none⟩=some (.slice A N c)/\w2.cell? ⟨w.heap.size,1,none⟩=some (.slice B M d))/\Below w.heap.size w w2:=⟨⟨HA2.out.cell 0,HA2.out.cell 1⟩,((Zag.of s1.2).call hb2).2.2⟩;have HO2:=hid hown2;have HO12:=hid (Zac HO1.out hb2);have d0:w2.cell? ⟨w.heap.size+1,0,none⟩=some (.slice none 0 0):=HR2.out.cell 0;have d1:w2.cell? ⟨w.heap.size+1,1,none⟩=some (.slice none 0 0):=HR2.out.cell 1;have f0:=HR2.out.frozen 0;have f1:=HR2.out.frozen 1;have s3:(((w2.setCell ⟨w.heap.size+1,0,none⟩ (.slice A1 N c1)).setCell ⟨w.heap.size+1,1,none⟩ (.slice A2 M c2)).cell? ⟨w.heap.size,0,none⟩=some (.slice A N c)/\((w2.setCell ⟨w.heap.size+1,0,none⟩ (.slice A1 N c1)).setCell ⟨w.heap.size+1,1,none⟩ (.slice A2 M c2)).cell? ⟨w.heap.size,1,none⟩=some (.slice B M d))/\Below w.heap.size w ((w2.setCell ⟨w.heap.size+1,0,none⟩ (.slice A1 N c1)).setCell ⟨w.heap.size+1,1,none⟩ (.slice A2 M c2)):=⟨⟨(HA2.out.grown (Za9 HR2.out _ _).1 (by simp)).cell 0,(HA2.out.grown (Za9 HR2.out _ _).1 (by simp)).cell 1⟩,Zai s2.2 s2.2.size (Za9 HR2.out _ _).1 (by omega)⟩;clear hown2 hb2))
 go_wp2;have hst:=Za9 HR2.out (.slice A1 N c1) (.slice A2 M c2);refine bodyPost_ret (v:=.agg #[.slice A1 N c1,.slice A2 M c2]) (by simp[results,results106,go_sem,d0,d1]) rfl ⟨A1,c1,A2,c2,rfl,?_,?_,fun g h hg hh=>?_,s3.2⟩
 ·exact Zae (HO12.out.kept hst.1 (.inr (Zab HO12.out HR2.out (by decide)))) s0.2.size
 ·exact Zae (HO2.out.kept hst.1 (.inr (Zab HO2.out HR2.out (by decide)))) s1.2.size
 ·have h1:=(HO1.out.lt g hg).2;have h2:=(HO2.out.lt h hh).1;omega
def Zv8(w:World)(N M:Nat)(Ps Ms:List Int)(en:Ending)(w':World):Prop:=
 ∃AP cP AM cM,en=.returned (.tuple #[.agg #[.slice AP N cP,.slice AM M cM],.bool true])/\w'.ownsRow w.heap.size 2 1 (.slice AP N cP) N (iv Ps)/\w'.ownsRow w.heap.size 2 1 (.slice AM M cM) M (iv Ms)/\Below w.heap.size w w'
theorem ZoK(A B:Option Addr)(N M c d:Nat)(Ps Ms:List Int)(w:World)(hPl:Ps.length=N)(hMl:Ms.length=M)(hP:Rd w 1 A N (iv Ps))(hM:Rd w 1 B M (iv Ms))(hN:N<=1000000)(hM':M<=1000000) :
  Calls prog 105 #[.agg #[.slice A N c,.slice B M d]] w (Zv8 w N M Ps Ms):=by
 have HC:=hid (fun W (hb:Below w.heap.size w W)=>Zis A B N M c d Ps Ms W hPl hMl (hP.below hb) (hM.below hb) hN hM');clear hPl hMl hP hM;obtain⟨w0,hw0⟩:∃w0,(w.alloc (.cells #[.slice A N c,.slice B M d] 162)).alloc (.cells #[.slice none 0 0,.slice none 0 0] 162)=w0:=⟨_,rfl⟩;have HW:=hid hw0;have HK0:Hid (Below w.heap.size w w0):=hid (by rw[<-hw0];exact(bA0 _).alloc (by simp) _);have HB0:Hid (Blk w0 w.heap.size 162 #[.slice A N c,.slice B M d]):=hid (by rw[<-hw0];exact(Blk.new w _ _).alloc _);have HB1:Hid (Blk w0 (w.heap.size+1) 162 #[.slice none 0 0,.slice none 0 0]):=hid (by rw[<-hw0];exact Blk.new' _ _ (by simp));clear hw0
 go_enter func105,ntmps105
 go_wp2_with fail;rw[HW.out];((with_reducible refine(HC.out w0 HK0.out).mono ?_);rintro e w1 ⟨AP,cP,AM,cM,rfl,h1,h2,_,hb⟩);have HO1:=hid h1;have HO2:=hid h2;have HBb:=hid hb;have k1:=HB1.out.kept hb;have d0:=k1.cell 0;have d1:=k1.cell 1;have f0:=k1.frozen 0;have f1:=k1.frozen 1;have l1:=k1.lt;have HK1:=hid k1;clear h1 h2 hb k1;go_wp2_with fail;have hst:=Za9 HK1.out (.slice AP N cP) (.slice AM M cM);have hz:=HK0.out.size;have hz1:=HBb.out.size;refine bodyPost_ret (v:=.tuple #[.agg #[.slice AP N cP,.slice AM M cM],.bool true]) (by simp[results,results105,go_sem,d0,d1,l1]) rfl ⟨AP,cP,AM,cM,rfl,?_,?_,Zai (HK0.out.trans (HBb.out.mono hz)) (by omega) hst.1 (by omega)⟩
 ·exact Zae (HO1.out.kept hst.1 (.inr (Zab HO1.out HK1.out (by decide)))) hz
 ·exact Zae (HO2.out.kept hst.1 (.inr (Zab HO2.out HK1.out (by decide)))) hz
def ZqP(w:World)(N M m:Nat)(f:Nat->List Int×List Int)(en:Ending)(w':World):Prop:=
 ∃S cS l,l.length=m/\en=.returned (.tuple #[.slice S m cS,.bool true])/\w'.ownsRow w.heap.size 162 2 (.slice S m cS) m (stv N M l)/\ZcO w' w.heap.size N M l f/\Below w.heap.size w w'
theorem ZgN{w:World}{S:Option Addr}{N M m k:Nat}{es:List StS}{s:StS}(h:Rd w 2 S m (stv N M es))(hs:es[k]?=some s)(hk:k<m):∃b o,S=some ⟨b,o,none⟩/\b<w.heap.size/\w.cell? ⟨b,o+k*2,none⟩=some (.slice s.1 N s.2.1)/\w.cell? ⟨b,o+k*2+1,none⟩=some (.slice s.2.2.1 M s.2.2.2):=by
 obtain⟨b,o,e,hlt,hc⟩:=h.2 (by omega);obtain⟨g1,g2⟩:=Zmd N M es k s hs;exact⟨b,o,e,hlt,hc _ _ g1,by rw[Nat.add_assoc];exact hc _ _ g2⟩
theorem Zmu(S:Option Addr)(m cS N M:Nat)(es:List StS)(f:Nat->List Int×List Int)(w:World)(hl:es.length=m)(hm:m<=1000000)(h:Rd w 2 S m (stv N M es))(hr:RdS w N M es f)(hN:N<=1000000)(hM:M<=1000000)(hf:∀i,i<m->(f (i+1)).1.length=N/\(f (i+1)).2.length=M) :
  Calls prog 104 #[.slice S m cS,.func (.func 105) #[] #[]] w (ZqP w N M m f):=by
 have HL:=hid hl;have HR:=hid h;have HS:=hid hr;have HF:=hid hf;clear hl h hr hf
 go_enter func104,ntmps104
 go_wp2_with fail
 go_loopw [6,13] (fun v i wr=>∃(k:Nat) (A:Option Addr) (c:Nat) (l:List StS),k<=m/\l.length=k/\v=.slice A k c/\i=.int .i64 k/\wr.ownsRow w.heap.size 162 2 (.slice A k c) k (stv N M l)/\ZcO wr w.heap.size N M l f/\Below w.heap.size w wr) (fun _ i _=>m-(intOf i).toNat)
 case atStart=>exact⟨0,none,0,[],by omega,rfl,rfl,rfl,World.ownsRow_nil _ _ _ _,fun i s h=>by simp at h,bR0 _ _⟩
 case round=>
  obtain⟨k,A,c,l,hk,hlk,rfl,rfl,hown,hO,hb⟩:=hrel
  by_cases hlt:k<m
  ·obtain⟨⟨SP,cP,SM,cM⟩,hs⟩:∃s,es[k]?=some s:=⟨_,YaA (by rw[HL.out];exact hlt)⟩;obtain⟨b,o,rfl,lb,c0,c1⟩:=ZgN (HR.out.below hb) hs hlt;obtain⟨r1,r2⟩:=(HS.out.below hb) k _ hs;have HC:=hid (fun W (hB:Below wr.heap.size wr W)=>ZoK SP SM N M cP cM (f (k+1)).1 (f (k+1)).2 W (HF.out k hlt).1 (HF.out k hlt).2 (r1.below hB) (r2.below hB) hN hM);have HOw:=hid hown;have HOs:=hid hO;have HB:=hid hb;have HLK:=hid hlk;clear hown hO hb hlk r1 r2 hs;have HA:Hid (Below wr.heap.size wr (wr.alloc (.cells #[.slice SP N cP,.slice SM M cM] 162))):=hid (bA0 _);go_wp2_with fail;((with_reducible refine(HC.out _ HA.out).mono ?_);rintro e w1 ⟨AP,c2,AM,c3,rfl,ho1,ho2,hb1⟩);have hb2:Below wr.heap.size wr w1:=bT0 HA.out hb1;have HK2:=hid hb2;have HO1:=hid (Zae ho1 HA.out.size);have HO2:=hid (Zae ho2 HA.out.size);clear ho1 ho2 hb1;obtain⟨W2,hw2⟩:∃W2:World,W2=w1.alloc (.cells #[.slice AP N c2,.slice AM M c3] 162):=⟨_,rfl⟩;have hb3:Below w1.heap.size w1 W2:=by rw[hw2];exact bA0 _
   have hbk:Blk W2 w1.heap.size 162 #[.slice AP N c2,.slice AM M c3]:=by rw[hw2];exact Blk.new _ _ _
   have how3:=Zac (Zac HOw.out hb2) hb3;have hsz:w.heap.size<=W2.heap.size:=YaH HB.out.size (YaH hb2.size hb3.size);rw[hw2] at hb3 hbk how3 hsz;have HB3:=hid hb3;have HBK:=hid hbk;have HOw3:=hid how3;have c4:=hbk.cell 0;have c5:=hbk.cell 1;have l4:=hbk.lt;clear hb2 hb3 hw2 hbk how3
   go_wp2_with (at_builtin;go_must (refine Zaj Zxq rfl _ _ rfl w.heap.size _ k (stv N M l) rfl HOw3.out #[.slice AP N c2,.slice AM M c3] _ rfl (by simp) rfl (ZdP _ _ _ _ _ _) (by unfold maxLen;omega) (by omega) hsz ?_);go_must (intro A' c' wv hown' hb' hgr' hat';(have HOv:=hid hown');(have HBv:=hid hb');(have HGr:=hid hgr');clear hown' hb' hgr' hat'))
   go_roundw
   case rel=>
    refine⟨k+1,A',c',l++[(AP,c2,AM,c3)],by omega,by simp[HLK.out],rfl,by go_num,by rw[ZdO];exact HOv.out,?_,(HB.out.trans ((bT0 HK2.out HB3.out).mono HB.out.size)).trans HBv.out⟩;refine ZcO.row (((HOs.out.below HK2.out).snoc (by rw[HLK.out];exact Zae HO1.out HB.out.size) (by rw[HLK.out];exact Zae HO2.out HB.out.size)).below HB3.out) HOw3.out (by decide) HGr.out
   case measure=>simp[intOf];omega
  ·obtain rfl:k=m:=by omega
   have HOw:=hid hown;have HOs:=hid hO;have HB:=hid hb;clear hown hO hb;go_wp2
   go_ret2
   exact⟨A,c,l,hlk,rfl,HOw.out,HOs.out,HB.out⟩
theorem Zjj(S:Option Addr)(m cS N M:Nat)(es:List StS)(f:Nat->List Int×List Int)(w:World)(hl:es.length=m)(hm:m<=1000000)(h:Rd w 2 S m (stv N M es))(hr:RdS w N M es f)(hN:N<=1000000)(hM:M<=1000000)(hf:∀i,i<m->(f (i+1)).1.length=N/\(f (i+1)).2.length=M) :
  Calls prog 40 #[.slice S m cS] w fun e w'=>∃S' c' l,l.length=m/\e=.returned (.slice S' m c')/\w'.ownsRow w.heap.size 162 2 (.slice S' m c') m (stv N M l)/\ZcO w' w.heap.size N M l f/\Below w.heap.size w w':=by
 have HC:=hid (Zmu S m cS N M es f w hl hm h hr hN hM hf);clear hl h hr hf
 go_enter func40,ntmps40
 go_wp2_with fail;((with_reducible refine HC.out.mono ?_);rintro e w1 ⟨S',c',l,h1,rfl,h2,h3,h4⟩);have H1:=hid h1;have H2:=hid h2;have H3:=hid h3;have H4:=hid h4;clear h1 h2 h3 h4;go_wp2;go_ret;exact⟨S',c',l,H1.out,rfl,H2.out,H3.out,H4.out⟩
def Zmv(f:Nat->List Int×List Int)(L:List Int):Nat->List Int×List Int:=fun j=>f ((L.getD (j-1) 0).toNat+1)
theorem ZqQ(S:Option Addr)(m cS N M g:Nat)(x:Int)(es:List StS)(f:Nat->List Int×List Int)(w:World)(hg:Blk w g 25 #[.slice S m cS])(hx:0<=x/\x<m)(hl:es.length=m)(hm:m<=1000000)(h:Rd w 2 S m (stv N M es))(hr:RdS w N M es f)(hN:N<=1000000)(hM:M<=1000000)(hf:∀i,i<m->(f (i+1)).1.length=N/\(f (i+1)).2.length=M) :
  Calls prog 217 #[.int .i64 x,.pointer (some ⟨g,0,none⟩)] w (Zv8 w N M (f (x.toNat+1)).1 (f (x.toNat+1)).2):=by
 obtain⟨k,rfl⟩:∃k:Nat,x=k:=⟨x.toNat,by omega⟩;have hk:k<m:=by omega
 rw[Int.toNat_natCast];obtain⟨⟨SP,cP,SM,cM⟩,hs⟩:∃s,es[k]?=some s:=⟨_,YaA (by rw[hl];exact hk)⟩;obtain⟨b,o,rfl,lb,c0,c1⟩:=ZgN h hs hk;obtain⟨r1,r2⟩:=hr k _ hs;have HC:=hid (fun W (hB:Below w.heap.size w W)=>Zis SP SM N M cP cM (f (k+1)).1 (f (k+1)).2 W (hf k hk).1 (hf k hk).2 (r1.below hB) (r2.below hB) hN hM);have g0:=hg.cell 0;have lg:=hg.lt;have e1:decide ((k:Int)<0)=false:=YaI (by omega);have e2:decide ((m:Int)<=(k:Int))=false:=YaI (by omega);have i1:(0:Int)<=(k:Int):=by omega
 have i2:(k:Int)<(m:Int):=by omega
 have HA:Hid (Below w.heap.size w (w.alloc (.cells #[.slice none 0 0,.slice none 0 0] 162))):=hid (bA0 _);have HB1:Hid (Blk (w.alloc (.cells #[.slice none 0 0,.slice none 0 0] 162)) w.heap.size 162 #[.slice none 0 0,.slice none 0 0]):=hid (Blk.new w _ _);clear h hr hs hl hf r1 r2 hg hx
 go_enter func217,ntmps217
 go_wp2_with fail;((with_reducible refine(HC.out _ HA.out).mono ?_);rintro e w1 ⟨AP,c2,AM,c3,rfl,h1,h2,_,hb⟩);have HO1:=hid h1;have HO2:=hid h2;have HBb:=hid hb;have k1:=HB1.out.kept hb;have d0:=k1.cell 0;have d1:=k1.cell 1;have f0:=k1.frozen 0;have f1:=k1.frozen 1;have l1:=k1.lt;have HK1:=hid k1;clear h1 h2 hb k1;go_wp2_with fail;have hst:=Za9 HK1.out (.slice AP N c2) (.slice AM M c3);have hz:=HA.out.size;have hz1:=HBb.out.size;refine bodyPost_ret (v:=.tuple #[.agg #[.slice AP N c2,.slice AM M c3],.bool true]) (by simp[results,results217,go_sem,d0,d1,l1]) rfl ⟨AP,c2,AM,c3,rfl,?_,?_,Zai (HA.out.trans (HBb.out.mono hz)) (by omega) hst.1 (by omega)⟩
 ·exact Zae (HO1.out.kept hst.1 (.inr (Zab HO1.out HK1.out (by decide)))) hz
 ·exact Zae (HO2.out.kept hst.1 (.inr (Zab HO2.out HK1.out (by decide)))) hz
theorem Zmw(S A0:Option Addr)(m cS N M g n cap:Nat)(L:List Int)(es:List StS)(f:Nat->List Int×List Int)(w:World)(hg:Blk w g 25 #[.slice S m cS])(hL:L.length=n)(hn:n<=1000000)(hLr:Rd w 1 A0 n (iv L))(hin:∀x∈L,0<=x/\x<m)
  (hl:es.length=m) (hm:m<=1000000) (h:Rd w 2 S m (stv N M es)) (hr:RdS w N M es f) (hN:N<=1000000) (hM:M<=1000000) (hf:∀i,i<m->(f (i+1)).1.length=N/\(f (i+1)).2.length=M) :
  Calls prog 216 #[.slice A0 n cap,.func (.func 217) #[] #[.pointer (some ⟨g,0,none⟩)]] w (ZqP w N M n (Zmv f L)):=by
 have HL:=hid hL;have HR:=hid hLr;have HIN:=hid hin;have HP:=hid (fun W (hB:Below w.heap.size w W) x (hx:0<=x/\x<(m:Int))=>ZqQ S m cS N M g x es f W (hg.kept hB) hx hl hm (h.below hB) (hr.below hB) hN hM hf);clear hl h hr hf hL hLr hin hg
 go_enter func216,ntmps216
 go_wp2_with fail
 go_loopw [6,13] (fun v i wr=>∃(k:Nat) (A:Option Addr) (c:Nat) (l:List StS),k<=n/\l.length=k/\v=.slice A k c/\i=.int .i64 k/\wr.ownsRow w.heap.size 162 2 (.slice A k c) k (stv N M l)/\ZcO wr w.heap.size N M l (Zmv f L)/\Below w.heap.size w wr) (fun _ i _=>n-(intOf i).toNat)
 case atStart=>exact⟨0,none,0,[],by omega,rfl,rfl,rfl,World.ownsRow_nil _ _ _ _,fun i s h=>by simp at h,bR0 _ _⟩
 case round=>
  obtain⟨k,A,c,l,hk,hlk,rfl,rfl,hown,hO,hb⟩:=hrel
  by_cases hlt:k<n
  ·obtain⟨b,o,x,rfl,hbl,hx,c1⟩:=Zb7 HL.out (HR.out.below hb) hlt;have hxi:=HIN.out x (YaL hx);have hpf:f (x.toNat+1)=Zmv f L (k+1):=by simp[Zmv,List.getD,hx]
   have HC:=HP.out wr hb x hxi;rw[hpf] at HC;have HC:=hid HC;have HOw:=hid hown;have HOs:=hid hO;have HB:=hid hb;have HLK:=hid hlk;clear hown hO hb hlk hpf hx hxi;go_wp2_with fail;((with_reducible refine HC.out.mono ?_);rintro e w1 ⟨AP,c2,AM,c3,rfl,ho1,ho2,hb2⟩);have HK2:=hid hb2;have HO1:=hid ho1;have HO2:=hid ho2;clear ho1 ho2;obtain⟨W2,hw2⟩:∃W2:World,W2=w1.alloc (.cells #[.slice AP N c2,.slice AM M c3] 162):=⟨_,rfl⟩;have hb3:Below w1.heap.size w1 W2:=by rw[hw2];exact bA0 _
   have hbk:Blk W2 w1.heap.size 162 #[.slice AP N c2,.slice AM M c3]:=by rw[hw2];exact Blk.new _ _ _
   have how3:=Zac (Zac HOw.out hb2) hb3;have hsz:w.heap.size<=W2.heap.size:=YaH HB.out.size (YaH hb2.size hb3.size);rw[hw2] at hb3 hbk how3 hsz;have HB3:=hid hb3;have HBK:=hid hbk;have HOw3:=hid how3;have c4:=hbk.cell 0;have c5:=hbk.cell 1;have l4:=hbk.lt;clear hb2 hb3 hw2 hbk how3
   go_wp2_with (at_builtin;go_must (refine Zaj Zxq rfl _ _ rfl w.heap.size _ k (stv N M l) rfl HOw3.out #[.slice AP N c2,.slice AM M c3] _ rfl (by simp) rfl (ZdP _ _ _ _ _ _) (by unfold maxLen;omega) (by omega) hsz ?_);go_must (intro A' c' wv hown' hb' hgr' hat';(have HOv:=hid hown');(have HBv:=hid hb');(have HGr:=hid hgr');clear hown' hb' hgr' hat'))
   go_roundw
   case rel=>
    refine⟨k+1,A',c',l++[(AP,c2,AM,c3)],by omega,by simp[HLK.out],rfl,by go_num,by rw[ZdO];exact HOv.out,?_,(HB.out.trans ((bT0 HK2.out HB3.out).mono HB.out.size)).trans HBv.out⟩;refine ZcO.row (((HOs.out.below HK2.out).snoc (by rw[HLK.out];exact Zae HO1.out HB.out.size) (by rw[HLK.out];exact Zae HO2.out HB.out.size)).below HB3.out) HOw3.out (by decide) HGr.out
   case measure=>simp[intOf];omega
  ·obtain rfl:k=n:=by omega
   have HOw:=hid hown;have HOs:=hid hO;have HB:=hid hb;clear hown hO hb;go_wp2
   go_ret2
   exact⟨A,c,l,hlk,rfl,HOw.out,HOs.out,HB.out⟩
theorem ZkH(S A0:Option Addr)(m cS N M n cap:Nat)(L:List Int)(es:List StS)(f:Nat->List Int×List Int)(w:World)(hL:L.length=n)(hn:n<=1000000)(hLr:Rd w 1 A0 n (iv L))(hin:∀x∈L,0<=x/\x<m)
  (hl:es.length=m) (hm:m<=1000000) (h:Rd w 2 S m (stv N M es)) (hr:RdS w N M es f) (hN:N<=1000000) (hM:M<=1000000) (hf:∀i,i<m->(f (i+1)).1.length=N/\(f (i+1)).2.length=M) :
  Calls prog 166 #[.slice S m cS,.slice A0 n cap] w (ZqP w N M n (Zmv f L)):=by
 have HG:Hid (∀W,w.alloc (.cells #[.slice S m cS] 25)=W->Below w.heap.size w W/\Blk W w.heap.size 25 #[.slice S m cS]):=hid (by
  rintro W rfl;exact⟨bA0 _,Blk.new _ _ _⟩)
 have HC:=hid (fun W (hB:Below w.heap.size w W) (hg:Blk W w.heap.size 25 #[.slice S m cS])=>Zmw S A0 m cS N M w.heap.size n cap L es f W hg hL hn (hLr.below hB) hin hl hm (h.below hB) (hr.below hB) hN hM hf);clear hl h hr hf hL hLr hin
 go_enter func166,ntmps166
 go_wp2_with fail;obtain⟨hB,hK⟩:=HG.out _ rfl;((with_reducible refine(HC.out _ hB hK).mono ?_);rintro e w1 ⟨S',c',l,h1,rfl,h2,h3,h4⟩);have H1:=hid h1;have H2:=hid (Zae h2 hB.size);have H3:=hid (h3.base hB.size);have H4:=hid (bT0 hB h4);clear h1 h2 h3 h4 hB hK;go_wp2
 go_ret2
 exact⟨S',c',l,H1.out,rfl,H2.out,H3.out,H4.out⟩
abbrev Zf4(A:Option Addr)(n c cp s r:Nat)(pk:Int):Array Value:=#[.slice A n c,.int .i64 cp,.int .i64 s,.int .i64 r,.int .i64 pk]
abbrev Zfh:=Int×Int×Int×Int×Int
def Zxt(t:Zfh):List Value:=[.int .i64 t.1,.int .i64 t.2.1,.int .i64 t.2.2.1,.int .i64 t.2.2.2.1,.int .i64 t.2.2.2.2]
abbrev ZjX:=Zfh×(Option Addr×Nat×Nat)
def Zsg(m:ZjX):List Value:=[.int .i64 m.1.1,.int .i64 m.1.2.1,.int .i64 m.1.2.2.1,.int .i64 m.1.2.2.2.1,.int .i64 m.1.2.2.2.2,.slice m.2.1 m.2.2.1 m.2.2.2]
def msV(l:List ZjX):List Value:=l.flatMap Zsg
theorem ZoL(l k:List ZjX):msV (l++k)=msV l++msV k:=by simp[msV]
theorem Zu2(l:List ZjX)(k j:Nat)(m:ZjX)(hj:j<6)(hk:l[k]?=some m):(msV l)[k*6+j]?=(Zsg m)[j]?:=by
 induction l generalizing k with
 |nil=>simp at hk
 |cons r l ih=>
  have hr:(Zsg r).length=6:=rfl
  cases k with
  |zero=>
   obtain rfl:r=m:=by simpa using hk
   rw[msV,List.flatMap_cons,Nat.zero_mul,Nat.zero_add,YaV (by rw[hr];exact hj)]
  |succ k=>
   rw[msV,List.flatMap_cons,YaU (by rw[hr];omega),hr,show (k+1)*6+j-6=k*6+j by omega];exact ih k (by simpa using hk)
theorem Zta(m:ZjX):∀u∈(Zsg m).toArray.toList,u.oneCell'=true:=by
 intro u hu;simp[Zsg] at hu
 rcases hu with rfl|rfl|rfl|rfl|rfl|rfl<;>rfl
theorem Zxa:Sl prog 240 259 (.agg #[.int .i64 0,.int .i64 0,.int .i64 0,.int .i64 0,.int .i64 0,.slice none 0 0]) 6 64:=⟨underlying240,by kernel_rfl,rfl,by omega⟩
section
variable(A:Option Addr)(n c cp s r:Nat)(pk:Int)(b:Nat)(w:World)
theorem Zc0(h:Blk w b 243 (Zf4 A n c cp s r pk))(hr:r<=s)(hs:s<=1000000000000) :
  Calls prog 192 #[.pointer (some ⟨b,0,none⟩)] w fun e w'=>e=.returned (.int .i64 ((s-r:Nat):Int))/\∃m,w'=w.drewN m:=by
 have c2:=h.cell 2;have c3:=h.cell 3;have l1:=h.lt;clear h;have hw:IntKind.i64.wrap ((s:Int)-(r:Int))=((s-r:Nat):Int):=by rw[show (s:Int)-(r:Int)=((s-r:Nat):Int) by omega];exact IntWalk.i64_in _ (by omega)
 go_enter func192,ntmps192
 go_wp2_with fail
 go_quiet (fail)
 go_wp2;go_ret;exact⟨ZaG (by omega),_,rfl⟩
theorem Zc1(x:Nat)(h:Blk w b 243 (Zf4 A n c cp s r pk))(hcp:1<=cp)(hcp2:cp<=1048576)(hx:x<=1000000000000) :
  Calls prog 193 #[.pointer (some ⟨b,0,none⟩),.int .i64 x] w fun e w'=>e=.returned (.int .i64 ((x%cp:Nat):Int))/\w=w':=by
 have c1:=h.cell 1;have l1:=h.lt;clear h
 go_enter func193,ntmps193
 go_wp2;go_ret;exact⟨ZaG (by simp),rfl⟩
end
theorem ZhF(A:Option Addr)(n cap:Nat)(l:List Int)(w:World)(hl:l.length=n)(h:Rd w 1 A n (iv l))(hn:n<=10000000) :
  Calls prog 194 #[.slice A n cap] w (Zal w 2 1 n (iv l)):=by
 have HC:=hid (Zep A n cap l w hl h hn);clear hl h
 go_enter func194,ntmps194
 go_wp2_with fail;((with_reducible refine HC.out.mono ?_);rintro e w1 ⟨A1,c1,rfl,ho,hb⟩);have HO:=hid ho;have HB:=hid hb;clear ho hb;go_wp2;go_ret;exact⟨A1,c1,rfl,HO.out,HB.out⟩
theorem Zmx(cp:Nat)(w:World)(h1:1<=cp)(h2:cp<=1048576) :
  Calls prog 47 #[.int .i64 cp] w fun e w'=>e=.returned (.pointer (some ⟨w.heap.size,0,none⟩))/\Blk w' w.heap.size 243 (Zf4 none 0 0 cp 0 0 0)/\Below w.heap.size w w':=by
 have HG:Hid (∀W,w.alloc (.cells (Zf4 none 0 0 cp 0 0 0) 243)=W->Below w.heap.size w W/\Blk W w.heap.size 243 (Zf4 none 0 0 cp 0 0 0)):=hid (by
  rintro W rfl;exact⟨bA0 _,Blk.new _ _ _⟩)
 have e1:decide ((cp:Int)<1)=false:=YaI (by omega);have e2:decide ((1048576:Int)<(cp:Int))=false:=YaI (by omega)
 go_enter func47,ntmps47
 go_wp2;go_ret;exact⟨rfl,(HG.out _ rfl).2,(HG.out _ rfl).1⟩
theorem Zmy{w:World}{base n k c:Nat}{e:TypeId}{A:Option Addr}{l:List ZjX}{m:ZjX}(h:w.ownsRow base e 6 (.slice A n c) n (msV l))(hx:l[k]?=some m)(hk:k<n) :
  ∃b,A=some ⟨b,0,none⟩/\b<w.heap.size/\∀j,j<6->w.cell? ⟨b,k*6+j,none⟩=(Zsg m)[j]?:=by
 have hr:=Rd.of_own h;obtain⟨b,o,e',hlt,hc⟩:=hr.2 (by omega);obtain⟨A',cap',hv,_,_,hg⟩:=ZaF h;injection hv with hA _ _
 obtain⟨g,hg1,_,_⟩:=hg (by omega);rw[hA,hg1] at e';injection e' with e'
 injection e' with e1 e2
 subst e1 e2;refine⟨g,by rw[hA,hg1],hlt,fun j hj=>?_⟩;have h2:=Zu2 l k j m hj hx;have hj':j<(Zsg m).length:=hj;rw[YaA hj'] at h2 ⊢;have:=hc _ _ h2
 rwa [Nat.zero_add] at this
section
variable(A:Option Addr)(n c cp s r:Nat)(pk:Int)(b:Nat)(w:World)
theorem Zjk(ms:List ZjX)(m:ZjX)(base:Nat)(h:Blk w b 243 (Zf4 A n c cp s r pk))(hr:r<s)(hs:s<=1000000000000)(hcp:1<=cp)(hcp2:cp<=1048576)(ho:w.ownsRow base 259 6 (.slice A n c) n (msV ms))(hm:ms[r%cp]?=some m)(hl:ms.length=n) :
  Calls prog 279 #[.pointer (some ⟨b,0,none⟩)] w fun e w'=>e=.returned (.tuple #[.agg (Zxt m.1).toArray,.bool true])/\Below w.heap.size w w':=by
 obtain⟨p,hp⟩:∃p,r%cp=p:=⟨_,rfl⟩;rw[hp] at hm;have hpn:p<n:=by rw[<-hl];exact(YaG.1 hm).1
 obtain⟨g,rfl,lg,hc⟩:=Zmy ho hm hpn;obtain⟨⟨t1,t2,t3,t4,t5⟩,a,mn,mc⟩:=m;have q0:w.cell? ⟨g,p*6,none⟩=some (.int .i64 t1):=hc 0 (by omega);have q1:w.cell? ⟨g,p*6+1,none⟩=some (.int .i64 t2):=hc 1 (by omega);have q2:w.cell? ⟨g,p*6+2,none⟩=some (.int .i64 t3):=hc 2 (by omega);have q3:w.cell? ⟨g,p*6+3,none⟩=some (.int .i64 t4):=hc 3 (by omega);have q4:w.cell? ⟨g,p*6+4,none⟩=some (.int .i64 t5):=hc 4 (by omega);have c0:w.cell? ⟨b,0,none⟩=some (.slice (some ⟨g,0,none⟩) n c):=h.cell 0;have c3:w.cell? ⟨b,3,none⟩=some (.int .i64 r):=h.cell 3;have l1:=h.lt;have e0:(((s-r:Nat):Int)==0)=false:=by simp;omega
 have HLN:=hid (fun W (k:Zag w W)=>Zc0 (some ⟨g,0,none⟩) n c cp s r pk b W (h.kept k.2.2) (by omega) hs);have HPL:=hid (fun W (k:Zag w W)=>Zc1 (some ⟨g,0,none⟩) n c cp s r pk b W r (h.kept k.2.2) hcp hcp2 (by omega));rw[hp] at HPL;have i1:(0:Int)<=(p:Int):=by omega
 have i2:(p:Int)<(n:Int):=by omega
 have HA:Hid (Zag w (w.alloc (.cells #[.int .i64 0,.int .i64 0,.int .i64 0,.int .i64 0,.int .i64 0] 216))):=hid ((Zag.of (bR0 _ w)).alloc _);clear hc ho hm hp hl h
 go_enter func279,ntmps279
 go_wp2_with fail;((with_reducible refine(HLN.out _ HA.out).mono ?_);rintro e w1 ⟨rfl,mm,hw1⟩);have hk1:Zag w w1:=by rw[hw1];exact HA.out.drewN mm
 have hb1:Blk w1 w.heap.size 216 #[.int .i64 0,.int .i64 0,.int .i64 0,.int .i64 0,.int .i64 0]:=by rw[hw1];exact(Blk.new w _ _).drewN mm
 have HB1:=hid hb1;have HK1:=hid hk1;have k1:Zag w w1.drew:=hk1.drew;clear hw1 hb1 hk1;have c0:w1.cell? ⟨b,0,none⟩=some (.slice (some ⟨g,0,none⟩) n c):=by rw[HK1.out.1 b 0 l1];exact c0
 have c3:w1.cell? ⟨b,3,none⟩=some (.int .i64 r):=by rw[HK1.out.1 b 3 l1];exact c3
 have lb1:b<w1.heap.size:=YaK l1 HK1.out.2.1;have q0:w1.cell? ⟨g,p*6,none⟩=some (.int .i64 t1):=by rw[HK1.out.1 g _ lg];exact q0
 have q1:w1.cell? ⟨g,p*6+1,none⟩=some (.int .i64 t2):=by rw[HK1.out.1 g _ lg];exact q1
 have q2:w1.cell? ⟨g,p*6+2,none⟩=some (.int .i64 t3):=by rw[HK1.out.1 g _ lg];exact q2
 have q3:w1.cell? ⟨g,p*6+3,none⟩=some (.int .i64 t4):=by rw[HK1.out.1 g _ lg];exact q3
 have q4:w1.cell? ⟨g,p*6+4,none⟩=some (.int .i64 t5):=by rw[HK1.out.1 g _ lg];exact q4
 have lg1:g<w1.heap.size:=YaK lg HK1.out.2.1;go_wp2_with fail;refine Zad (Zag w1) [0,1,2,3,4,5,6,7,8,9] [10] [11,12,13,14,15] (by kernel_rfl) (by kernel_rfl) (Zag.start w1) ?_;simp only[YaO,YaP,YaB,YaC];refine Zaa (.pointer (some ⟨b,0,none⟩)) rfl (fun W hW=>?_) ?_
 ·obtain⟨hc,-,-⟩:=hW;go_simp
 go_simp;refine Zaa (.pointer (some ⟨b,0,none⟩)) rfl (fun W hW=>?_) ?_
 ·obtain⟨hc,-,-⟩:=hW;go_simp
 go_simp;refine Zaa (.pointer (some ⟨b,0,none⟩)) rfl (fun W hW=>?_) ?_
 ·obtain⟨hc,-,-⟩:=hW;go_simp
 go_simp;refine Zaa (.slice (some ⟨g,0,none⟩) n c) rfl (fun W hW=>?_) ?_
 ·obtain⟨hc,-,-⟩:=hW;go_simp
 go_simp;refine Zaa (.pointer (some ⟨b,0,none⟩)) rfl (fun W hW=>?_) ?_
 ·obtain⟨hc,-,-⟩:=hW;go_simp
 go_simp;refine Zaa (.pointer (some ⟨b,0,none⟩)) rfl (fun W hW=>?_) ?_
 ·obtain⟨hc,-,-⟩:=hW;go_simp
 go_simp;refine Zaa (.pointer (some ⟨b,0,none⟩)) rfl (fun W hW=>?_) ?_
 ·obtain⟨hc,-,-⟩:=hW;go_simp
 go_simp;refine Zaa (.pointer (some ⟨b,2,none⟩)) rfl (fun W hW=>?_) ?_
 ·obtain⟨hc,-,-⟩:=hW;go_simp
 go_simp;refine Zaa (.pointer (some ⟨b,3,none⟩)) rfl (fun W hW=>?_) ?_
 ·obtain⟨hc,-,-⟩:=hW;go_simp
 go_simp;refine Zaa (.int .i64 r) rfl (fun W hW=>?_) ?_
 ·obtain⟨hc,-,-⟩:=hW;go_simp
 go_simp;change Zah _ _ _ _ _ (_::[]) _ _;unfold Zah;go_wp2_with fail;((with_reducible refine(HPL.out _ k1).mono ?_);rintro e w2 ⟨rfl,hw2⟩);subst hw2;go_wp2_with fail;refine⟨Zag.start w1,?_⟩;unfold Zah;change wpList _ _ _ (_::_::_::_::_::[]) _ _;have d0:=HB1.out.cell 0;have d1:=HB1.out.cell 1;have d2:=HB1.out.cell 2;have d3:=HB1.out.cell 3;have d4:=HB1.out.cell 4;have f0:=HB1.out.frozen 0;have f1:=HB1.out.frozen 1;have f2:=HB1.out.frozen 2;have f3:=HB1.out.frozen 3;have f4:=HB1.out.frozen 4;have lb:=HB1.out.lt;go_wp2_with fail;refine NoPanic.normal ?_;go_wp2_with fail;refine bodyPost_ret (v:=.tuple #[.agg #[.int .i64 t1,.int .i64 t2,.int .i64 t3,.int .i64 t4,.int .i64 t5],.bool true]) (by simp[results,results279,go_sem,d0,d1,d2,d3,d4,lb]) rfl ⟨rfl,?_⟩
 repeat (first|(refine Below.setCell (B:=w.heap.size) (p:=⟨w.heap.size,_,none⟩) ?_ (show w.heap.size<=w.heap.size from YaF _) _)|(refine Below.drew ?_))
 exact HK1.out.2.2
end
