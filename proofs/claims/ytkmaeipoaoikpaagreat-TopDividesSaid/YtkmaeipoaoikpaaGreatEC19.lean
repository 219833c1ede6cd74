/- Lemmas. -/
import Derived.Test.YtkmaeipoaoikpaaGreatEC18
namespace Go.Proofs.YtkmaeipoaoikpaaGreat
set_option linter.all false
set_option maxRecDepth 100000
set_option maxHeartbeats 4000000
open Lib (hid)
open Go.RowKit
open Tryz
def Zwl(xs:List Value):Nat->List Value->List Value
 |_,[]=>xs
 |o,v::r=>Zwl (xs.set o v) (o+1) r
theorem ZmG:∀(vs xs:List Value) (o:Nat),o+vs.length<=xs.length->Zwl xs o vs=xs.take o++(vs++xs.drop (o+vs.length))
 |[],xs,o,h=>by simp[Zwl]
 |v::r,xs,o,h=>by
  rw[List.length_cons] at h;rw[Zwl,ZmG r (xs.set o v) (o+1) (by rw[List.length_set];omega),List.take_set,List.drop_set,if_pos (by omega)];rw[List.set_eq_take_append_cons_drop,if_pos (by rw[List.length_take];omega),List.take_take,Nat.min_eq_left (by omega),List.drop_eq_nil_of_le (by rw[List.length_take];omega),List.length_cons,show o+1+r.length=o+(r.length+1) by omega];simp
theorem ZdE{base:Nat}{e:TypeId}{g n c:Nat}:∀(vs:List Value) (o:Nat) (w:World) (xs:List Value),w.ownsRow base e 1 (.slice (some ⟨g,0,none⟩) n c) n xs ->
  (w.setCells g o vs).ownsRow base e 1 (.slice (some ⟨g,0,none⟩) n c) n (Zwl xs o vs)/\w.grownBy (w.setCells g o vs) (some g)
 |[],o,w,xs,h=>⟨h,World.grownBy.refl _ _⟩
 |v::r,o,w,xs,h=>by
  obtain⟨h1,h2⟩:=h.stored o v;obtain⟨h3,h4⟩:=ZdE r (o+1) _ _ h1;exact⟨h3,h2.trans h4⟩
theorem Zbz{w:World}{base base':Nat}{e e':TypeId}{size size' n n':Nat}{v v':Value}{xs xs':List Value}(h:w.ownsRow base e size v n xs)(h':w.ownsRow base' e' size' v' n' xs')(hne:e≠e'):v.ownBlock=none\/v.ownBlock≠v'.ownBlock:=by
 cases hv:v.ownBlock with
 |none=>exact .inl rfl
 |some g=>exact .inr (fun e=>ZaA h h' hne g hv e.symm)
theorem Zre:Sl prog 52 92 (.agg #[.slice none 0 0,.slice none 0 0]) 2 48:=⟨underlying52,by kernel_rfl,rfl,by omega⟩
theorem ZhK(S:Nat->Prop)(mb:Nat)(K:MC)(s:MS)(k1 t u:Int)(sd ad:Bool)(j1 j2 j3 j4 j5 j6 j7:Int)(pl pr:Option Addr)(w:World)(hK:K.Ok)(h:Zaz S w mb K s)(hl:s.rcd.length<1000) :
  Calls prog 236 #[.pointer (some ⟨mb,0,none⟩),(.agg (Zea k1 t u sd ad j1 j2 j3 j4 j5 j6 j7)),.agg #[.pointer pl,.pointer pr]] w fun e w'=>e=.returned (.int .i64 0)/\Zaz (fun i=>S i\/w.heap.size<=i) w' mb K { s with rcd:=s.rcd++[(s.P,s.M)],G:=Zas K.NP }/\But S w w':=by
 obtain⟨F,a,hM,hF,hMu⟩:=h;obtain⟨lP,lM,lG,lR⟩:=hM.lens;have HM:=hid hM;have HF:=hid hF;have HMu:=hid hMu;have HK:=hid hK;have HLR:=hid hl;clear hM hF hMu hK hl lR
 go_enter func236,ntmps236
 go_wp2_with fail;obtain⟨w1,hw1⟩:∃w1,(w.alloc (.cells (Zea k1 t u sd ad j1 j2 j3 j4 j5 j6 j7) 222)).alloc (.cells #[.pointer pl,.pointer pr] 341)=w1:=⟨_,rfl⟩;have hb1:Below w.heap.size w w1:=by rw[<-hw1];exact(bA0 _).alloc (by simp) _
 rw[hw1];have HB1:=hid hb1;have HM1:=hid (HM.out.below hb1);clear hw1 hb1;have HC:=hid (Zdy (some ⟨a.gp,0,none⟩) (some ⟨a.gm,0,none⟩) K.NP K.NP a.cP a.cM s.P s.M w1.drew lP lM (Rd.of_own (Zbi HM1.out.prow)) (Rd.of_own (Zbi HM1.out.mrow)) (by have:=HK.out.np;omega) (by have:=HK.out.np;omega));refine Zad (fun W=>Blk W mb 121 (ZcC K s a)) [0,1,2,3,4,5,6,7,8] [9,10,11] [12,13,14] (by kernel_rfl) (by kernel_rfl) (HM1.out.blk.drew) ?_;simp only[YaO,YaP,YaB,YaC];refine Zaa (.pointer (some ⟨mb,0,none⟩)) rfl (fun W hW=>?_) ?_
 ·have x14:=hW.cell 14;have x11:=hW.cell 11;have x12:=hW.cell 12;have lx:=hW.lt;go_simp
 go_simp;refine Zaa (.pointer (some ⟨mb,0,none⟩)) rfl (fun W hW=>?_) ?_
 ·have x14:=hW.cell 14;have x11:=hW.cell 11;have x12:=hW.cell 12;have lx:=hW.lt;go_simp
 go_simp;refine Zaa (.pointer (some ⟨mb,0,none⟩)) rfl (fun W hW=>?_) ?_
 ·have x14:=hW.cell 14;have x11:=hW.cell 11;have x12:=hW.cell 12;have lx:=hW.lt;go_simp
 go_simp;refine Zaa (.pointer (some ⟨mb,14,none⟩)) rfl (fun W hW=>?_) ?_
 ·have x14:=hW.cell 14;have x11:=hW.cell 11;have x12:=hW.cell 12;have lx:=hW.lt;go_simp
 go_simp;refine Zaa (.slice a.AR s.rcd.length a.cR) rfl (fun W hW=>?_) ?_
 ·have x14:=hW.cell 14;have x11:=hW.cell 11;have x12:=hW.cell 12;have lx:=hW.lt;go_simp
 go_simp;refine Zaa (.pointer (some ⟨mb,0,none⟩)) rfl (fun W hW=>?_) ?_
 ·have x14:=hW.cell 14;have x11:=hW.cell 11;have x12:=hW.cell 12;have lx:=hW.lt;go_simp
 go_simp;refine Zaa (.pointer (some ⟨mb,0,none⟩)) rfl (fun W hW=>?_) ?_
 ·have x14:=hW.cell 14;have x11:=hW.cell 11;have x12:=hW.cell 12;have lx:=hW.lt;go_simp
 go_simp;refine Zaa (.pointer (some ⟨mb,11,none⟩)) rfl (fun W hW=>?_) ?_
 ·have x14:=hW.cell 14;have x11:=hW.cell 11;have x12:=hW.cell 12;have lx:=hW.lt;go_simp
 go_simp;refine Zaa (.agg #[.slice (some ⟨a.gp,0,none⟩) K.NP a.cP,.slice (some ⟨a.gm,0,none⟩) K.NP a.cM]) rfl (fun W hW=>?_) ?_
 ·have x14:=hW.cell 14;have x11:=hW.cell 11;have x12:=hW.cell 12;have lx:=hW.lt;go_simp
 go_simp;change Zah _ _ _ _ _ (_::_::_::[]) _ _;unfold Zah;go_wp2_with fail;((with_reducible refine HC.out.mono ?_);rintro e w2 ⟨AP,cP,AM,cM,rfl,hp2,hm2,hpm,hb2⟩);have hb2':Below w1.heap.size w1 w2:=((Zag.start w1).call hb2).2.2;have hp2':w2.ownsRow w1.heap.size 2 1 (.slice AP K.NP cP) K.NP (iv s.P):=hp2;have hm2':w2.ownsRow w1.heap.size 2 1 (.slice AM K.NP cM) K.NP (iv s.M):=hm2;have HB2:=hid hb2';have HP2:=hid hp2';have HQ2:=hid hm2';have HM2:=hid (HM1.out.below hb2');clear hp2 hm2 hpm hb2 hb2' hp2' hm2' HC;go_wp2_with fail;refine⟨HM2.out.blk,?_⟩;unfold Zah;change wpList _ _ _ (_::[]) _ w2;go_wp2_with fail;refine⟨HM2.out.blk.alloc _,?_⟩;unfold Zah;change wpList _ _ _ (_::[]) _ (w2.alloc (.cells #[.slice AP K.NP cP,.slice AM K.NP cM] 92))
 go_wp2_with (at_builtin;go_must (refine Zaj (w:=w2) Zre rfl _ _ rfl 0 (.slice a.AR s.rcd.length a.cR) s.rcd.length (stv K.NP K.NP a.rs) rfl HM2.out.rrow #[.slice AP K.NP cP,.slice AM K.NP cM] w2.heap.size rfl rfl rfl (by intro u hu;simp at hu;rcases hu with rfl|rfl<;>rfl) (by unfold maxLen;have:=HM.out.rl;omega) (by have:=HM.out.rl;omega) (Nat.zero_le _) ?_);go_must (intro A' c' wa hown' hb' hgr' hat'))
 have HX:=hid (HM2.out.blk.other HM2.out.rrow hgr' (by decide));have HP3:=hid (HP2.out.kept hgr' (Zbz HP2.out HM2.out.rrow (by decide)));have HQ3:=hid (HQ2.out.kept hgr' (Zbz HQ2.out HM2.out.rrow (by decide)));have HO:=hid hown';have HGR:=hid hgr';have HAT:=hid hat';clear hown' hb' hgr' hat';refine⟨HX.out,?_⟩;unfold Zah;change wpList _ _ _ (_::_::_::[]) _ _;have v14:=HX.out.cell 14;have f14:=HX.out.frozen 14;have l14:=HX.out.lt;go_wp2_with fail;refine NoPanic.normal ?_;have hg2:=Zak (p:=⟨mb,14,none⟩) (World.grownBy.refl wa (some mb)) (.inl rfl) (.slice A' (s.rcd.length+1) c');have e1:(s.rcd++[(s.P,s.M)]).length=s.rcd.length+1:=by simp
 have hB2:Blk (wa.setCell ⟨mb,14,none⟩ (.slice A' (s.rcd.length+1) c')) mb 121 (ZcC K { s with rcd:=s.rcd++[(s.P,s.M)] } { a with AR:=A',cR:=c',rs:=a.rs++[(AP,cP,AM,cM)] }):=by
  have:=HX.out.set_ 14 (.slice A' (s.rcd.length+1) c')
  simpa [ZcC] using this
 have hO2:=HO.out.kept hg2 (.inr (Zab HO.out HX.out (by decide)));have hP2:=HP3.out.kept hg2 (.inr (Zab HP3.out HX.out (by decide)));have hQ2:=HQ3.out.kept hg2 (.inr (Zab HQ3.out HX.out (by decide)));have hbut:But (fun i=>i=mb\/ZaX a.AR=some i) w1 (wa.setCell ⟨mb,14,none⟩ (.slice A' (s.rcd.length+1) c')):=
  ((But.of_below (fun i=>i=mb\/ZaX a.AR=some i) HB2.out).trans (But.of_own (S:=fun i=>i=mb\/ZaX a.AR=some i) HGR.out (fun g hg=>.inr ((Zaf _ _ _).symm.trans hg)))).trans (But.of_gr hg2 (.inl rfl))
 have hm:=HM1.out.setR (x:=(AP,cP,AM,cM)) (AR:=A') (cR:=c') hbut hB2 (by rw[e1];simpa [stv] using hO2) (fun g hg=>by
  rcases HAT.out g ((Zaf _ _ _).trans hg) with h1|h1
  ·exact .inl ((Zaf _ _ _).symm.trans h1)
  ·exact .inr (YaH HB2.out.size (Nat.le_of_lt h1))) hP2 hQ2 HLR.out
 obtain⟨w3,hw3⟩:∃w3,wa.setCell ⟨mb,14,none⟩ (.slice A' (s.rcd.length+1) c')=w3:=⟨_,rfl⟩;rw[hw3] at hm hbut ⊢;have HM3:=hid hm;have HB3:=hid hbut;clear hw3 hm hbut hg2 hB2 hO2 hP2 hQ2 v14 f14 l14 e1;have m13:=cv13 HM3.out.blk;have ml:=HM3.out.blk.lt;have hcl:∀ty,(Builtin.clear_ #[74] ty #[.slice (some ⟨a.gg,0,none⟩) K.NP a.cG]).run prog w3=.ok (.tuple #[]) (w3.setCells a.gg 0 (List.replicate K.NP (.int .i64 0))):=fun ty=>
  Lib.run_clear_slice w3 74 2 ty (.int .i64 0) underlying74 (fun w=>rfl) rfl rfl a.gg 0 K.NP a.cG (by have:=HK.out.np1;omega) (fun j hj=>by
   have:=HM3.out.grow.cellAt j (by omega);rw[Nat.zero_add,this,iv,YaR,YaA (by rw[show (_:List Int).length=K.NP from lG];exact hj)]
   rfl) (fun j hj=>by rw[Nat.zero_add];exact HM3.out.grow.frozenAt j)
 obtain⟨hz,hg⟩:=ZdE (List.replicate K.NP (Value.int .i64 0)) 0 w3 _ HM3.out.grow;have HZ:=hid hz;have HG:=hid hg;clear hz hg;go_wp2_with fail;go_ret;have hz:=HZ.out;rw[ZmG _ _ _ (by rw[List.length_replicate,Zay];show 0+K.NP<=s.G.length;omega),List.length_replicate,List.take_zero,List.nil_append,Nat.zero_add,List.drop_eq_nil_of_le (by rw[Zay];show s.G.length<=K.NP;omega),List.append_nil] at hz;have e2:iv (Zas K.NP)=List.replicate K.NP (Value.int .i64 0):=by simp[iv,Zas]
 have hbg:=But.of_gr (S:=fun b=>b=a.gg) HG.out rfl;have hm:=HM3.out.setG (G':=Zas K.NP) hbg (by rw[e2];exact hz);refine⟨rfl,⟨_,_,hm,fun i hi=>?_,fun i hi=>?_⟩,((But.of_below S HB1.out).trans (HB3.out.mono (fun i _ hi=>?_))).trans (hbg.mono (fun i _ hi=>?_))⟩
 ·rcases hi with hi|hi|hi
  ·exact .inl (HF.out i hi)
  ·have:=(HP2.out.lt i ((Zaf _ _ _).trans hi)).1;exact .inr (YaH HB1.out.size this)
  ·have:=(HQ2.out.lt i ((Zaf _ _ _).trans hi)).1;exact .inr (YaH HB1.out.size this)
 ·rcases hi with hi|hi|hi|hi|hi|hi
  ·exact .inl (HMu.out i (.inl hi))
  ·exact .inl (HMu.out i (.inr (.inl hi)))
  ·exact .inl (HMu.out i (.inr (.inr (.inl hi))))
  ·exact .inl (HMu.out i (.inr (.inr (.inr (.inl hi)))))
  ·rcases HAT.out i ((Zaf _ _ _).trans hi) with h1|h1
   ·exact .inl (HMu.out i (.inr (.inr (.inr (.inr (.inl ((Zaf _ _ _).symm.trans h1)))))))
   ·exact .inr (YaH HB1.out.size (YaH HB2.out.size (Nat.le_of_lt h1)))
  ·exact .inl (HMu.out i (.inr (.inr (.inr (.inr (.inr hi))))))
 ·rcases hi with hi|hi
  ·exact HMu.out i (.inl hi)
  ·exact HMu.out i (.inr (.inr (.inr (.inr (.inl hi)))))
 ·exact HMu.out i (.inr (.inr (.inr (.inl hi))))
theorem ZoY{w:World}{base g n c i:Nat}{e:TypeId}{xs:List Value}(h:w.ownsRow base e 1 (.slice (some ⟨g,0,none⟩) n c) n xs)(hi:i<=n):w.ownsRow base e 1 (.slice (some ⟨g,0,none⟩) i c) i (xs.take i):=by
 have hl:=h.1;rw[Nat.mul_one] at hl
 rcases h.2 with⟨h1,-⟩|⟨g',cap,cur,h1,hb,hh,h2,h3,h4,h5⟩
 ·cases h1
 ·injection h1 with h1 h6 h7
  injection h1 with h1
  injection h1 with h1
  subst h1 h7;refine⟨by rw[List.length_take];omega,.inr ⟨g,c,cur,rfl,hb,hh,by omega,h3,h4,?_⟩⟩;rw[<-h5,List.take_take,Nat.mul_one,Nat.mul_one,Nat.min_eq_left hi]
section
variable(gi:Nat)(k1 t u:Int)(sd ad:Bool)(j1 j2 j3 j4 j5 j6 j7:Int)
theorem ZnO(x:Int)(w:World)(h:Blk w gi 222 (Zea k1 t u sd ad j1 j2 j3 j4 j5 j6 j7)) :
  Calls prog 268 #[.int .i64 x,.pointer (some ⟨gi,0,none⟩)] w fun e w'=>e=.returned (.bool (x==u))/\w=w':=by
 have c2:=h.cell 2;have l2:=h.lt;clear h
 go_enter func268,ntmps268
 go_wp2;go_ret;exact⟨rfl,rfl⟩
abbrev Zvb(L:List Int)(u v:Int):Prop:=(v=-1/\∀(j:Nat) (x:Int),L[j]?=some x->(x==u)=false)\/∃k:Nat,v=k/\L[k]?=some u/\∀(j:Nat) (x:Int),j<k->L[j]?=some x->(x==u)=false
theorem Zk2(A:Option Addr)(n c:Nat)(L:List Int)(w:World)(hl:L.length=n)(hr:Rd w 1 A n (iv L))(hn:n<=1000000)(h:Blk w gi 222 (Zea k1 t u sd ad j1 j2 j3 j4 j5 j6 j7)) :
  Calls prog 180 #[.slice A n c,.func (.func 268) #[] #[.pointer (some ⟨gi,0,none⟩)]] w fun e w'=>∃v:Int,e=.returned (.int .i64 v)/\Zvb L u v/\w=w':=by
 have HL:=hid hl;have HR:=hid hr;have HC:=hid (fun x=>ZnO gi k1 t u sd ad j1 j2 j3 j4 j5 j6 j7 x w h);clear hl hr h
 go_enter func180,ntmps180
 go_wp2_with fail
 go_loopw [8] (fun v wr=>∃k:Nat,k<=n/\v=.int .i64 k/\Hid (∀(j:Nat) (x:Int),j<k->L[j]?=some x->(x==u)=false)/\w=wr) (fun c _=>n-(intOf c).toNat)
 case atStart=>exact⟨0,by omega,rfl,hid (fun j x h=>by omega),rfl⟩
 case round=>
  obtain⟨k,hk,rfl,he,hw⟩:=hrel;subst hw
  by_cases hlt:k<n
  ·obtain⟨b,o,x,rfl,lb,hx,cx⟩:=Zb7 HL.out HR.out hlt;have C:=HC.out x;obtain⟨q,hq⟩:∃q,(x==u)=q:=⟨_,rfl⟩;rw[hq] at C;have HQ:=hid hq;have HS:=hid hx;have HCC:=hid C;clear hq hx C
   cases q
   ·go_wp2_with fail;((with_reducible refine HCC.out.mono ?_);rintro e w1 ⟨rfl,hw1⟩);subst hw1;go_wp2_with fail
    go_roundw
    case rel=>
     refine⟨k+1,by omega,by go_num,hid (fun j y hj hy=>?_),trivial⟩
     by_cases hjk:j<k
     ·exact he.out j y hjk hy
     ·obtain rfl:j=k:=by omega
      rw[HS.out] at hy;injection hy with hy
      rw[<-hy];exact HQ.out
    case measure=>simp[intOf];omega
   ·go_wp2_with fail;((with_reducible refine HCC.out.mono ?_);rintro e w1 ⟨rfl,hw1⟩);subst hw1;go_wp2_with fail;go_ret;have e1:x=u:=by simpa using HQ.out
    exact⟨k,rfl,.inr ⟨k,rfl,by rw[HS.out,e1],he.out⟩,rfl⟩
  ·obtain rfl:k=n:=by omega
   go_wp2;go_ret;exact⟨-1,rfl,.inl ⟨rfl,fun j x hx=>he.out j x (by have:=(YaG.1 hx).1;rw[HL.out] at this;exact this) hx⟩,rfl⟩
structure Zed(L:List Int)(u:Int)(n i j:Nat)(R:List Int):Prop where
 len:R.length=n
 ij:i<j
 jn:j<=n
 lo:R.take i=(L.take j).filter (fun x=>!(x==u))
 hi:∀t,j<=t->R[t]?=L[t]?
theorem Zed.start{L:List Int}{u:Int}{n k:Nat}(hl:L.length=n)(hk:L[k]?=some u)(hf:∀(j:Nat) (x:Int),j<k->L[j]?=some x->(x==u)=false):Zed L u n k (k+1) L:=by
 obtain⟨hkl,hku⟩:=YaG.1 hk;refine⟨hl,by omega,by omega,?_,fun t _=>rfl⟩;rw[Zbd _ _ hkl,List.filter_append,hku];simp
 symm
 rw[List.filter_eq_self];intro x hx;obtain⟨j,hj⟩:=List.getElem?_of_mem hx;rw[List.getElem?_take] at hj
 split at hj
 ·rename_i hjk
  have:=hf j x hjk hj
  simpa using this
 ·cases hj
theorem Zed.keep{L R:List Int}{u x:Int}{n i j:Nat}(h:Zed L u n i j R)(hj:L[j]?=some x)(hl:L.length=n)(hx:(x==u)=false):Zed L u n (i+1) (j+1) (R.set i x):=by
 obtain⟨hjl,hjx⟩:=YaG.1 hj;have hij:=h.ij;refine⟨by rw[List.length_set];exact h.len,by omega,by omega,?_,fun t ht=>?_⟩
 ·have hil:i<(R.set i x).length:=by rw[List.length_set,h.len];omega
  rw[Zbd _ _ hil,Zbd _ _ hjl,List.filter_append,List.take_set_of_le (YaF _),h.lo,hjx];simp[hx]
 ·rw[List.getElem?_set_ne (by omega)];exact h.hi t (by omega)
theorem Zed.skip{L R:List Int}{u x:Int}{n i j:Nat}(h:Zed L u n i j R)(hj:L[j]?=some x)(hl:L.length=n)(hx:(x==u)=true):Zed L u n i (j+1) R:=by
 obtain⟨hjl,hjx⟩:=YaG.1 hj;have hij:=h.ij;refine⟨h.len,by omega,by omega,?_,fun t ht=>h.hi t (by omega)⟩;rw[Zbd _ _ hjl,List.filter_append,h.lo,hjx];simp[hx]
def ZcD(L:List Int)(u:Int):List Int:=L.filter fun x=>!(x==u)
theorem ZoZ{L:List Int}{u:Int}(h:∀(j:Nat) (x:Int),L[j]?=some x->(x==u)=false):ZcD L u=L:=by
 unfold ZcD;rw[List.filter_eq_self];intro x hx;obtain⟨j,hj⟩:=List.getElem?_of_mem hx;rw[h j x hj];rfl
theorem Zo0(A:Option Addr)(n c base:Nat)(L:List Int)(w:World)(hl:L.length=n)(hr:w.ownsRow base 3 1 (.slice A n c) n (iv L))(hn:n<=1000000)(h:Blk w gi 222 (Zea k1 t u sd ad j1 j2 j3 j4 j5 j6 j7)) :
  Calls prog 267 #[.slice A n c,.func (.func 268) #[] #[.pointer (some ⟨gi,0,none⟩)]] w fun e w'=>e=.returned (.slice A (ZcD L u).length c)/\w'.ownsRow base 3 1 (.slice A (ZcD L u).length c) (ZcD L u).length (iv (ZcD L u))/\w.grownBy w' (Value.slice A n c).ownBlock:=by
 have HL:=hid hl;have HR:=hid hr;have HI:=hid (Zk2 gi k1 t u sd ad j1 j2 j3 j4 j5 j6 j7 A n c L w hl (Rd.of_own hr) hn h);have HG:=hid h;clear hl hr h
 go_enter func267,ntmps267
 go_wp2_with fail;((with_reducible refine HI.out.mono ?_);rintro e w1 ⟨v,rfl,hv,hw1⟩);subst hw1
 rcases hv with⟨rfl,hno⟩|⟨k,rfl,hk,hf⟩
 ·have HNO:=hid (ZoZ hno);clear hno;go_wp2_with fail;go_ret;rw[HNO.out,HL.out];exact⟨rfl,HR.out,World.grownBy.refl _ _⟩
 ·obtain⟨hkl,-⟩:=YaG.1 hk;have HST:=hid (Zed.start HL.out hk hf);have hkn:k<n:=by rw[<-HL.out];exact hkl
  obtain⟨g,rfl⟩:=Zbu HR.out (by omega);have e1:((k:Int)==-1)=false:=beq_eq_false_iff_ne.2 (by omega);have hw1:IntKind.i64.wrap ((k:Int)+1)=((k+1:Nat):Int):=by rw[show (k:Int)+1=((k+1:Nat):Int) by omega];exact IntWalk.i64_in _ (by omega)
  clear hk hf hkl;go_wp2_with fail;clear e1 hw1
  go_loopw [5,6] (fun s5 s6 wr=>∃(i j:Nat) (R:List Int),s5=.int .i64 i/\s6=.int .i64 j/\Hid (Zed L u n i j R)/\wr.ownsRow base 3 1 (.slice (some ⟨g,0,none⟩) n c) n (iv R)/\w.grownBy wr (some g)) (fun _ s6 _=>n-(intOf s6).toNat)
  case atStart=>exact⟨k,k+1,L,rfl,by go_num,HST,HR.out,World.grownBy.refl _ _⟩
  case round=>
   obtain⟨i,j,R,rfl,rfl,hD,hz,hg⟩:=hrel;have hij:=hD.out.ij;have hjn:=hD.out.jn
   by_cases hlt:j<n
   ·obtain⟨x,hx⟩:∃x,L[j]?=some x:=⟨_,YaA (by rw[HL.out];exact hlt)⟩;have hRx:R[j]?=some x:=(hD.out.hi j (YaF _)).trans hx;have cx:wr.cell? ⟨g,j,none⟩=some (.int .i64 x):=(hz.cellAt j (by omega)).trans (by rw[iv,YaR,hRx];rfl);obtain⟨y,hy⟩:∃y,R[i]?=some y:=⟨_,YaA (by rw[hD.out.len];omega)⟩;have cy:wr.cell? ⟨g,i,none⟩=some (.int .i64 y):=(hz.cellAt i (by omega)).trans (by rw[iv,YaR,hy];rfl);have fy:=hz.frozenAt i;have lz:g<wr.heap.size:=(hz.lt g rfl).2;have hgr:Blk wr gi 222 (Zea k1 t u sd ad j1 j2 j3 j4 j5 j6 j7):=HG.out.other HR.out (by simpa [Value.ownBlock] using hg) (by decide);have C:=ZnO gi k1 t u sd ad j1 j2 j3 j4 j5 j6 j7 x wr hgr;have h1:=hz.stored i (.int .i64 x);rw[Zcs] at h1;obtain⟨q,hq⟩:∃q,(x==u)=q:=⟨_,rfl⟩;rw[hq] at C;have HQ:=hid hq;have HX:=hid hx;have HC:=hid C;have HZ:=hid hz;have HGR:=hid hg;have H1:=hid h1;have i1:(0:Int)<=(j:Int):=by omega
    have i2:(j:Int)<(n:Int):=by omega
    have i3:(0:Int)<=(i:Int):=by omega
    have i4:(i:Int)<(n:Int):=by omega
    have hw2:IntKind.i64.wrap ((i:Int)+1)=((i+1:Nat):Int):=by rw[show (i:Int)+1=((i+1:Nat):Int) by omega];exact IntWalk.i64_in _ (by omega)
    have hw3:IntKind.i64.wrap ((j:Int)+1)=((j+1:Nat):Int):=by rw[show (j:Int)+1=((j+1:Nat):Int) by omega];exact IntWalk.i64_in _ (by omega)
    clear hx hRx hy hgr C h1 hq hz hg
    cases q
    ·go_wp2_with fail;((with_reducible refine HC.out.mono ?_);rintro e w2 ⟨rfl,hw2⟩);subst hw2;go_wp2_with fail
     go_roundw
     case rel=>exact⟨i+1,j+1,R.set i x,by go_num,by go_num,hid (hD.out.keep HX.out HL.out HQ.out),H1.out.1,HGR.out.trans H1.out.2⟩
     case measure=>simp[intOf];omega
    ·go_wp2_with fail;((with_reducible refine HC.out.mono ?_);rintro e w2 ⟨rfl,hw2⟩);subst hw2;go_wp2_with fail
     go_roundw
     case rel=>exact⟨i,j+1,R,rfl,by go_num,hid (hD.out.skip HX.out HL.out HQ.out),HZ.out,HGR.out⟩
     case measure=>simp[intOf];omega
   ·obtain rfl:j=n:=by omega
    have hcap:=Zdq hz;have hci:¬c=i:=by omega
    have hcl:∀ty,(Builtin.clear_ #[22] ty #[.slice (some ⟨g,i,none⟩) (j-i) (c-i)]).run prog wr=.ok (.tuple #[]) (wr.setCells g i (List.replicate (j-i) (.int .i64 0))):=fun ty=>
     Lib.run_clear_slice wr 22 3 ty (.int .i64 0) underlying22 (fun w=>rfl) rfl rfl g i (j-i) (c-i) (by omega) (fun t ht=>by
      rw[hz.cellAt (i+t) (by omega),iv,YaR,YaA (by rw[hD.out.len];omega)]
      rfl) (fun t ht=>hz.frozenAt (i+t))
    obtain⟨h2,hg2⟩:=ZdE (List.replicate (j-i) (Value.int .i64 0)) i wr _ hz;have h3:=ZoY h2 (Nat.le_of_lt hij);rw[ZmG _ _ _ (by rw[List.length_replicate,Zay,hD.out.len];omega),List.take_left' (by rw[List.length_take,Zay,hD.out.len];omega)] at h3;have e2:(iv R).take i=iv (ZcD L u):=by
     have:=hD.out.lo;rw[YaX (l:=L) (by rw[HL.out];exact YaF _)] at this;rw[iv,<-List.map_take,this];rfl
    have e3:(ZcD L u).length=i:=by
     have:=congrArg List.length e2;rw[Zay,List.length_take,Zay,hD.out.len] at this;omega
    rw[e2] at h3;have H3:=hid h3;have HE:=hid e3;have HGR:=hid (hg.trans hg2);clear hz hg h2 h3 hg2 e2 e3;go_wp2_with fail;go_ret;rw[HE.out];exact⟨rfl,H3.out,HGR.out⟩
end
def pcL(G:List Int)(e k:Nat):List Int:=(G.drop e).take k
theorem ZfS(code:Int)(Q:World->Prop)(S:Nat->Prop)(mb:Nat)(K:MC)(s:MS)(k1 t u:Int)(sd ad:Bool)(j1 j2 j3 j4 j5:Int)(e e2 k:Nat)(pl:Option Addr)(lb:Nat)(w:World)(hK:K.Ok)(h:Zaz S w mb K s)(hk:e+k=e2)(he:e2<=K.NP)
  (hsend:∀Aw cw W,Below w.heap.size w W->Rd W 1 Aw k (iv (pcL s.G e k))->Calls prog 130 #[.pointer (some ⟨lb,0,none⟩),.agg #[.int .i64 j1,.int .i64 j2,.int .i64 j3,.int .i64 j4,.int .i64 j5,.slice Aw k cw]] W fun en w2=>en=.returned (.int .i64 code)/\Q w2) :
  Calls prog 233 #[.pointer (some ⟨mb,0,none⟩),(.agg (Zea k1 t u sd ad j1 j2 j3 j4 j5 e e2)),.agg #[.pointer pl,.pointer (some ⟨lb,0,none⟩)]] w fun en w'=>en=.returned (.int .i64 code)/\Q w':=by
 obtain⟨F,a,hM,hF,hMu⟩:=h;obtain⟨lP,lM,lG,lR⟩:=hM.lens;have HM:=hid hM;have HS:=hid hsend;have HKE:=hid hk;have hnp:=hK.np;clear hM hF hMu hK lR hk hsend
 go_enter func233,ntmps233
 go_wp2_with fail;obtain⟨w1,hw1⟩:∃w1,((w.alloc (.cells (Zea k1 t u sd ad j1 j2 j3 j4 j5 e e2) 222)).alloc (.cells #[.pointer pl,.pointer (some ⟨lb,0,none⟩)] 341)).alloc (.cells #[.bool sd,.bool ad,.int .i64 j1,.int .i64 j2,.int .i64 j3,.int .i64 j4,.int .i64 j5,.int .i64 e,.int .i64 e2] 220)=w1:=⟨_,rfl⟩;have hb1:Below w.heap.size w w1:=by rw[<-hw1];exact((bA0 _).alloc (by simp) _).alloc (by simp;omega) _
 have hi1:Blk w1 (w.heap.size+1) 341 #[.pointer pl,.pointer (some ⟨lb,0,none⟩)]:=by rw[<-hw1];exact(Blk.new' _ _ (by simp)).alloc _
 have ha1:Blk w1 (w.heap.size+1+1) 220 #[.bool sd,.bool ad,.int .i64 j1,.int .i64 j2,.int .i64 j3,.int .i64 j4,.int .i64 j5,.int .i64 e,.int .i64 e2]:=by rw[<-hw1];exact Blk.new' _ _ (by simp)
 rw[hw1];have HB1:=hid hb1;have HM1:=hid (HM.out.below hb1);have i1:=hi1.cell 1;have il:=hi1.lt;have a2:=ha1.cell 2;have a3:=ha1.cell 3;have a4:=ha1.cell 4;have a5:=ha1.cell 5;have a6:=ha1.cell 6;have a7:=ha1.cell 7;have a8:=ha1.cell 8;have al:=ha1.lt;have m13:=cv13 HM1.out.blk;have ml:=HM1.out.blk.lt;have hcap:K.NP<=a.cG:=Zdq HM1.out.grow;obtain⟨Aw,hAw⟩:∃Aw,Zax (some ⟨a.gg,0,none⟩) a.cG e=Aw:=⟨_,rfl⟩;have hsl:=fun W=>Zcm (P:=prog) (T:=74) (A:=some ⟨a.gg,0,none⟩) (n:=K.NP) (c:=a.cG) (e:=e) (e2:=e2) (k:=k) (c1:=a.cG-e) (P1:=Aw) underlying74 (fun W=>rfl) (by have:=HKE.out;omega) (by omega) (by have:=HKE.out;omega) rfl hAw W
 have hrd:Rd w1.drew 1 Aw k (iv (pcL s.G e k)):=by rw[<-hAw];exact ZsF (Zbi HM1.out.grow) lG (by have:=HKE.out;omega)
 have HSN:=hid (HS.out Aw (a.cG-e) w1.drew HB1.out.drew hrd);clear hw1 hb1 hi1 ha1 hAw hrd;refine Zad (Zag w1) [0,1,2,3,4,5,6,7,8,9,10,11,12,13,14,15] [] [16,17] (by kernel_rfl) (by kernel_rfl) (Zag.start w1) ?_;simp only[YaO,YaP,YaB,YaC];refine Zaa (.pointer (some ⟨w.heap.size+1,1,none⟩)) rfl (fun W hW=>?_) ?_
 ·obtain⟨hc,-,-⟩:=hW;go_simp
 go_simp;refine Zaa (.pointer (some ⟨lb,0,none⟩)) rfl (fun W hW=>?_) ?_
 ·obtain⟨hc,-,-⟩:=hW;go_simp
 go_simp;refine Zaa (.pointer (some ⟨w.heap.size+1+1,2,none⟩)) rfl (fun W hW=>?_) ?_
 ·obtain⟨hc,-,-⟩:=hW;go_simp
 go_simp;refine Zaa (.agg #[.int .i64 j1,.int .i64 j2,.int .i64 j3,.int .i64 j4,.int .i64 j5]) rfl (fun W hW=>?_) ?_
 ·obtain⟨hc,-,-⟩:=hW;go_simp
 go_simp;refine Zaa (.pointer (some ⟨mb,0,none⟩)) rfl (fun W hW=>?_) ?_
 ·obtain⟨hc,-,-⟩:=hW;go_simp
 go_simp;refine Zaa (.pointer (some ⟨mb,0,none⟩)) rfl (fun W hW=>?_) ?_
 ·obtain⟨hc,-,-⟩:=hW;go_simp
 go_simp;refine Zaa (.pointer (some ⟨mb,13,none⟩)) rfl (fun W hW=>?_) ?_
 ·obtain⟨hc,-,-⟩:=hW;go_simp
 go_simp;refine Zaa (.slice (some ⟨a.gg,0,none⟩) K.NP a.cG) rfl (fun W hW=>?_) ?_
 ·obtain⟨hc,-,-⟩:=hW;go_simp
 go_simp;refine Zaa (.pointer (some ⟨w.heap.size+1+1,7,none⟩)) rfl (fun W hW=>?_) ?_
 ·obtain⟨hc,-,-⟩:=hW;go_simp
 go_simp;refine Zaa (.pointer (some ⟨w.heap.size+1+1,7,none⟩)) rfl (fun W hW=>?_) ?_
 ·obtain⟨hc,-,-⟩:=hW;go_simp
 go_simp;refine Zaa (.int .i64 e) rfl (fun W hW=>?_) ?_
 ·obtain⟨hc,-,-⟩:=hW;go_simp
 go_simp;refine Zaa (.pointer (some ⟨w.heap.size+1+1,7,none⟩)) rfl (fun W hW=>?_) ?_
 ·obtain⟨hc,-,-⟩:=hW;go_simp
 go_simp;refine Zaa (.pointer (some ⟨w.heap.size+1+1,8,none⟩)) rfl (fun W hW=>?_) ?_
 ·obtain⟨hc,-,-⟩:=hW;go_simp
 go_simp;refine Zaa (.int .i64 e2) rfl (fun W hW=>?_) ?_
 ·obtain⟨hc,-,-⟩:=hW;go_simp
 go_simp;refine Zaa (.slice Aw k (a.cG-e)) rfl (fun W hW=>?_) ?_
 ·obtain⟨hc,-,-⟩:=hW;go_simp
 go_simp;refine Zaa (.agg #[.int .i64 j1,.int .i64 j2,.int .i64 j3,.int .i64 j4,.int .i64 j5,.slice Aw k (a.cG-e)]) rfl (fun W hW=>?_) ?_
 ·obtain⟨hc,-,-⟩:=hW;go_simp
 go_simp;unfold ZbZ;unfold Zah;change wpList _ _ _ (_::_::[]) _ w1.drew;go_wp2_with fail;((with_reducible refine HSN.out.mono ?_);rintro en w2 ⟨rfl,hq2⟩);have HQ2:=hid hq2;clear hq2;go_wp2_with fail;refine NoPanic.normal ?_;go_wp2_with fail;go_ret;exact⟨rfl,HQ2.out⟩
theorem Zk3(S T:Nat->Prop)(mb:Nat)(K:MC)(s:MS)(k1 t u:Int)(sd ad:Bool)(j1 j2 j3 j4 j5:Int)(e e2 k:Nat)(pl:Option Addr)(lb cp sn rc:Nat)(q:List (Zfh×List Int))(w:World)(hK:K.Ok)(h:Zaz S w mb K s)(hL:ZaP T w lb cp sn rc q)(hd:∀i,S i->¬T i)(hroom:sn-rc<cp)(hs9:sn<1000000000)(hk:e+k=e2)(he:e2<=K.NP) :
  Calls prog 233 #[.pointer (some ⟨mb,0,none⟩),(.agg (Zea k1 t u sd ad j1 j2 j3 j4 j5 e e2)),.agg #[.pointer pl,.pointer (some ⟨lb,0,none⟩)]] w fun en w'=>en=.returned (.int .i64 0)/\Zaz S w' mb K s/\ZaP (fun i=>T i\/w.heap.size<=i) w' lb cp (sn+1) rc (q++[((j1,j2,j3,j4,j5),pcL s.G e k)])/\But T w w':=by
 have hnp:=hK.np;have lG:s.G.length=K.NP:=by
  obtain⟨F,a,hM,-,-⟩:=h;exact hM.lens.2.2.1
 have hpl:(pcL s.G e k).length=k:=by rw[pcL,List.length_take,List.length_drop];omega
 refine ZfS 0 (fun w'=>Zaz S w' mb K s/\ZaP (fun i=>T i\/w.heap.size<=i) w' lb cp (sn+1) rc (q++[((j1,j2,j3,j4,j5),pcL s.G e k)])/\But T w w') S mb K s k1 t u sd ad j1 j2 j3 j4 j5 e e2 k pl lb w hK h hk he (fun Aw cw W hW hrd=>?_);refine(Zjm T lb cp sn rc q (j1,j2,j3,j4,j5) (pcL s.G e k) Aw k cw W (hL.step hW.size (fun i hi _=>hW.block i hi)) hroom hs9 hrd hpl (by omega)).mono ?_;rintro en w2 ⟨rfl,hl2,hb2⟩;refine⟨rfl,(h.step hW.size (fun i hi _=>hW.block i hi)).step hb2.size (fun i hi hS=>hb2.block i hi (hd i hS)),hl2.mono (fun i _ hi=>?_),(But.of_below T hW).trans hb2⟩
 rcases hi with hi|hi
 ·exact .inl hi
 ·exact .inr (YaH hW.size hi)
theorem Zrf{ra mo sh:Int}{Ps Ms gs:List Int}{lo k:Nat}(h:Zaw Ps):Zaw (Zbn ra mo sh Ps Ms gs lo k):=by
 intro x hx;obtain⟨j,hj⟩:=List.getElem?_of_mem hx;rw[ZbS] at hj;obtain⟨p,hp,rfl⟩:=Option.map_eq_some_iff.1 hj
 split
 ·exact Zp9 _ _ _ _
 ·exact h p (YaL hp)
theorem Zrg{mo sh:Int}{Ms gs:List Int}{lo k:Nat}(h:Zaw Ms):Zaw (Zbm mo sh Ms gs lo k):=by
 intro x hx;obtain⟨j,hj⟩:=List.getElem?_of_mem hx;rw[ZbR] at hj;obtain⟨p,hp,rfl⟩:=Option.map_eq_some_iff.1 hj
 split
 ·exact ZaZ _
 ·exact h p (YaL hp)
theorem ZhL(S:Nat->Prop)(mb:Nat)(K:MC)(s:MS)(k1 t:Int)(j:Nat)(sd ad:Bool)(j1 j2 j3 j4 j5 j6 j7:Int)(pl pr:Option Addr)(w:World)(lo hi k:Nat)(hK:K.Ok)(h:Zaz S w mb K s)(hj:K.pc.bks[j]?=some ((lo:Int),(hi:Int)))(hk:lo+k=hi)(hh:hi<=K.NP) :
  Calls prog 235 #[.pointer (some ⟨mb,0,none⟩),(.agg (Zea k1 t j sd ad j1 j2 j3 j4 j5 j6 j7)),.agg #[.pointer pl,.pointer pr]] w fun e w'=>e=.returned (.int .i64 0)/\Zaz (fun i=>S i\/w.heap.size<=i) w' mb K { s with P:=Zbn K.c.ra K.c.mo K.c.sh s.P s.M (pcL s.G lo k) lo k,M:=Zbm K.c.mo K.c.sh s.M (pcL s.G lo k) lo k,opn:=ZcD s.opn j }/\But S w w':=by
 obtain⟨F,a,hM,hF,hMu⟩:=h;obtain⟨lP,lM,lG,lR⟩:=hM.lens;have HM:=hid hM;have HF:=hid hF;have HMu:=hid hMu;have HK:=hid hK;have HJ:=hid hj;have HKE:=hid hk;have hjn:j<K.pc.nb:=by
  have:=(YaG.1 hj).1
  rwa [PlC.bks_length] at this
 have hnp:=hK.np;have hn60:=PlC.nb_le hK.pcok;clear hM hF hMu hK lR hj hk
 go_enter func235,ntmps235
 go_wp2_with fail;obtain⟨w1,hw1⟩:∃w1,(w.alloc (.cells (Zea k1 t j sd ad j1 j2 j3 j4 j5 j6 j7) 222)).alloc (.cells #[.pointer pl,.pointer pr] 341)=w1:=⟨_,rfl⟩;have hb1:Below w.heap.size w w1:=by rw[<-hw1];exact(bA0 _).alloc (by simp) _
 have hi1:Blk w1 w.heap.size 222 (Zea k1 t j sd ad j1 j2 j3 j4 j5 j6 j7):=by rw[<-hw1];exact(Blk.new _ _ _).alloc _
 rw[hw1];have HB1:=hid hb1;have HI1:=hid hi1;have HM1:=hid (HM.out.below hb1);clear hw1 hb1 hi1;obtain⟨gb,hAb,lb,q0,q1⟩:=Zi0 HM1.out.fz.here.bks HJ.out hjn;dsimp only at q0 q1;have i1:(0:Int)<=(j:Int):=by omega
 have i2:(j:Int)<(K.pc.nb:Int):=by omega
 have m7:w1.cell? ⟨mb,7,none⟩=some (.slice (some ⟨gb,0,none⟩) K.pc.nb a.cb):=by rw[<-hAb];exact HM1.out.blk.cell 7
 have ml:=HM1.out.blk.lt;have t2:=HI1.out.cell 2;have tl:=HI1.out.lt;refine Zad (Zag w1) [0,1,2,3,4,5,6,7,8] [9] [10] (by kernel_rfl) (by kernel_rfl) (Zag.start w1) ?_;simp only[YaO,YaP,YaB,YaC];refine Zaa (.pointer (some ⟨mb,0,none⟩)) rfl (fun W hW=>?_) ?_
 ·obtain⟨hc,-,-⟩:=hW;go_simp
 go_simp;refine Zaa (.pointer (some ⟨mb,0,none⟩)) rfl (fun W hW=>?_) ?_
 ·obtain⟨hc,-,-⟩:=hW;go_simp
 go_simp;refine Zaa (.pointer (some ⟨mb,0,none⟩)) rfl (fun W hW=>?_) ?_
 ·obtain⟨hc,-,-⟩:=hW;go_simp
 go_simp;refine Zaa (.pointer (some ⟨mb,7,none⟩)) rfl (fun W hW=>?_) ?_
 ·obtain⟨hc,-,-⟩:=hW;go_simp
 go_simp;refine Zaa (.slice (some ⟨gb,0,none⟩) K.pc.nb a.cb) rfl (fun W hW=>?_) ?_
 ·obtain⟨hc,-,-⟩:=hW;go_simp
 go_simp;refine Zaa (.pointer (some ⟨w.heap.size,2,none⟩)) rfl (fun W hW=>?_) ?_
 ·obtain⟨hc,-,-⟩:=hW;go_simp
 go_simp;refine Zaa (.int .i64 j) rfl (fun W hW=>?_) ?_
 ·obtain⟨hc,-,-⟩:=hW;go_simp
 go_simp;refine Zaa (.pointer (some ⟨gb,j*2,none⟩)) rfl (fun W hW=>?_) ?_
 ·obtain⟨hc,-,-⟩:=hW;go_simp
 go_simp;refine Zaa (.agg #[.int .i64 lo,.int .i64 hi]) rfl (fun W hW=>?_) ?_
 ·obtain⟨hc,-,-⟩:=hW;go_simp
 go_simp;change Zah _ _ _ _ _ (_::[]) _ _;unfold Zah;go_wp2_with fail;refine⟨(Zag.start w1).alloc _,?_⟩;unfold Zah;change wpList _ _ _ (_::[]) _ _;go_wp2_with fail;refine NoPanic.normal ?_;obtain⟨w2,hw2⟩:∃w2,(w1.alloc (.cells #[.int .i64 lo,.int .i64 hi] 218)).drew=w2:=⟨_,rfl⟩;have hb2:Below w1.heap.size w1 w2:=by rw[<-hw2];exact(bA0 _).drew
 have hq2:Blk w2 w1.heap.size 218 #[.int .i64 lo,.int .i64 hi]:=by rw[<-hw2];exact(Blk.new _ _ _).drew
 rw[hw2];have HB2:=hid hb2;have HQ2:=hid hq2;have HI2:=hid (HI1.out.kept hb2);have HM2:=hid (HM1.out.below hb2);clear hw2 hb2 hq2 m7 ml t2 tl q0 q1 lb;have m8:=cv8 HM2.out.blk;have m9:=cv9 HM2.out.blk;have m10:=cv10 HM2.out.blk;have m11:=cv11 HM2.out.blk;have m12:=cv12 HM2.out.blk;have m13:=cv13 HM2.out.blk;have ml:=HM2.out.blk.lt;have u0:=HQ2.out.cell 0;have u1:=HQ2.out.cell 1;have ul:=HQ2.out.lt;have hcap:K.NP<=a.cG:=Zdq HM2.out.grow;obtain⟨Aw,hAw⟩:∃Aw,Zax (some ⟨a.gg,0,none⟩) a.cG lo=Aw:=⟨_,rfl⟩;have hsl:=fun W=>Zcm (P:=prog) (T:=74) (A:=some ⟨a.gg,0,none⟩) (n:=K.NP) (c:=a.cG) (e:=lo) (e2:=hi) (k:=k) (c1:=a.cG-lo) (P1:=Aw) underlying74 (fun W=>rfl) (by have:=HKE.out;omega) (by omega) (by have:=HKE.out;omega) rfl hAw W
 have hrd:Rd w2.drew 1 Aw k (iv (pcL s.G lo k)):=by rw[<-hAw];exact ZsF (Zbi HM2.out.grow) lG (by have:=HKE.out;omega)
 have hpl:(pcL s.G lo k).length=k:=by rw[pcL,List.length_take,List.length_drop];have:=HKE.out;omega
 have hab:∀b o,Aw=some ⟨b,o,none⟩->0<k->b≠a.gp/\b≠a.gm:=by
  intro b o hb h0;obtain⟨g,hg,hp⟩:=Zp0 (e:=lo) (k:=k) HM2.out.grow h0 (by have:=HKE.out;omega);injection hg with hg
  injection hg with hg
  rw[hAw,hb] at hp;injection hp with hp
  injection hp with hp
  rw[hp,<-hg];exact⟨HM2.out.npg.symm,HM2.out.nmg.symm⟩
 have HAP:=hid (Zqc K.c.ra K.c.mo K.c.sh (some ⟨a.gp,0,none⟩) (some ⟨a.gm,0,none⟩) Aw K.NP a.cP a.cM k (a.cG-lo) lo hi a.gp a.gm 0 s.P s.M (pcL s.G lo k) w2.drew (Zbi HM2.out.prow) (Zbi HM2.out.mrow) (fun _=>⟨rfl,rfl,HM2.out.npm⟩) hrd hpl hab (by have:=HKE.out;omega) hh (by omega) HK.out.ra HK.out.mo HM2.out.pin HM2.out.min);clear hAw hrd hpl hab;go_wp2_with fail;refine Zad (Zag w2) [0,1,2,3,4,5,6,7,8,9,10,11,12,13,14,15,16,17,18] [] [19] (by kernel_rfl) (by kernel_rfl) (Zag.start w2) ?_;simp only[YaO,YaP,YaB,YaC];refine Zaa (.pointer (some ⟨mb,0,none⟩)) rfl (fun W hW=>?_) ?_
 ·obtain⟨hc,-,-⟩:=hW;go_simp
 go_simp;refine Zaa (.pointer (some ⟨mb,0,none⟩)) rfl (fun W hW=>?_) ?_
 ·obtain⟨hc,-,-⟩:=hW;go_simp
 go_simp;refine Zaa (.pointer (some ⟨mb,0,none⟩)) rfl (fun W hW=>?_) ?_
 ·obtain⟨hc,-,-⟩:=hW;go_simp
 go_simp;refine Zaa (.pointer (some ⟨mb,8,none⟩)) rfl (fun W hW=>?_) ?_
 ·obtain⟨hc,-,-⟩:=hW;go_simp
 go_simp;refine Zaa (.agg #[.int .i64 K.c.ra,.int .i64 K.c.mo,.int .i64 K.c.sh]) rfl (fun W hW=>?_) ?_
 ·obtain⟨hc,-,-⟩:=hW;go_simp
 go_simp;refine Zaa (.pointer (some ⟨mb,0,none⟩)) rfl (fun W hW=>?_) ?_
 ·obtain⟨hc,-,-⟩:=hW;go_simp
 go_simp;refine Zaa (.pointer (some ⟨mb,0,none⟩)) rfl (fun W hW=>?_) ?_
 ·obtain⟨hc,-,-⟩:=hW;go_simp
 go_simp;refine Zaa (.pointer (some ⟨mb,11,none⟩)) rfl (fun W hW=>?_) ?_
 ·obtain⟨hc,-,-⟩:=hW;go_simp
 go_simp;refine Zaa (.agg #[.slice (some ⟨a.gp,0,none⟩) K.NP a.cP,.slice (some ⟨a.gm,0,none⟩) K.NP a.cM]) rfl (fun W hW=>?_) ?_
 ·obtain⟨hc,-,-⟩:=hW;go_simp
 go_simp;refine Zaa (.agg #[.int .i64 lo,.int .i64 hi]) rfl (fun W hW=>?_) ?_
 ·obtain⟨hc,-,-⟩:=hW;go_simp
 go_simp;refine Zaa (.pointer (some ⟨mb,0,none⟩)) rfl (fun W hW=>?_) ?_
 ·obtain⟨hc,-,-⟩:=hW;go_simp
 go_simp;refine Zaa (.pointer (some ⟨mb,0,none⟩)) rfl (fun W hW=>?_) ?_
 ·obtain⟨hc,-,-⟩:=hW;go_simp
 go_simp;refine Zaa (.pointer (some ⟨mb,13,none⟩)) rfl (fun W hW=>?_) ?_
 ·obtain⟨hc,-,-⟩:=hW;go_simp
 go_simp;refine Zaa (.slice (some ⟨a.gg,0,none⟩) K.NP a.cG) rfl (fun W hW=>?_) ?_
 ·obtain⟨hc,-,-⟩:=hW;go_simp
 go_simp;refine Zaa (.pointer (some ⟨w1.heap.size,0,none⟩)) rfl (fun W hW=>?_) ?_
 ·obtain⟨hc,-,-⟩:=hW;go_simp
 go_simp;refine Zaa (.int .i64 lo) rfl (fun W hW=>?_) ?_
 ·obtain⟨hc,-,-⟩:=hW;go_simp
 go_simp;refine Zaa (.pointer (some ⟨w1.heap.size,1,none⟩)) rfl (fun W hW=>?_) ?_
 ·obtain⟨hc,-,-⟩:=hW;go_simp
 go_simp;refine Zaa (.int .i64 hi) rfl (fun W hW=>?_) ?_
 ·obtain⟨hc,-,-⟩:=hW;go_simp
 go_simp;refine Zaa (.slice Aw k (a.cG-lo)) rfl (fun W hW=>?_) ?_
 ·obtain⟨hc,-,-⟩:=hW;go_simp
 go_simp;unfold ZbZ;unfold Zah;change wpList _ _ _ (_::[]) _ w2.drew;go_wp2_with fail;((with_reducible refine HAP.out.mono ?_);rintro e w3 ⟨rfl,hp3,hm3,hb3⟩);have hb3':But (fun i=>i=a.gp\/i=a.gm) w2 w3:=⟨hb3.os,hb3.tape,hb3.output,hb3.size,fun i hi hn=>hb3.block i hi (fun h=>hn h.2)⟩;have HM3:=hid (HM2.out.setPM hb3' hp3 hm3 (Zrf HM2.out.pin) (Zrg HM2.out.min));have HI3:=hid (HI2.out.but hb3' (by
  rintro(e|e)
  ·exact Zab HM2.out.prow HI2.out (by decide) (by rw[e];rfl)
  ·exact Zab HM2.out.mrow HI2.out (by decide) (by rw[e];rfl)))
 have HB3:=hid hb3';clear hp3 hm3 hb3 hb3' m8 m9 m10 m11 m12 m13 ml u0 u1 ul hsl HAP;go_wp2_with fail;refine NoPanic.normal ?_;have m18:w3.cell? ⟨mb,18,none⟩=some (.slice a.AO s.opn.length a.cO):=HM3.out.blk.cell 18;have ml:=HM3.out.blk.lt;have HDE:=hid (Zo0 w.heap.size k1 t j sd ad j1 j2 j3 j4 j5 j6 j7 a.AO s.opn.length a.cO 0 s.opn w3 rfl HM3.out.orow (by have:=HM.out.ol;omega) HI3.out);go_wp2_with fail;((with_reducible refine HDE.out.mono ?_);rintro e w4 ⟨rfl,ho4,hg4⟩);have HX:=hid (HM3.out.blk.other HM3.out.orow hg4 (by decide));have HO4:=hid ho4;have HG4:=hid hg4;clear ho4 hg4 m18 ml HDE;have v18:=HX.out.cell 18;have f18:=HX.out.frozen 18;have l18:=HX.out.lt;go_wp2_with fail;go_ret;have hg2:=Zak (p:=⟨mb,18,none⟩) (World.grownBy.refl w4 (some mb)) (.inl rfl) (.slice a.AO (ZcD s.opn j).length a.cO);have hB2:Blk (w4.setCell ⟨mb,18,none⟩ (.slice a.AO (ZcD s.opn j).length a.cO)) mb 121 (ZcC K { s with P:=Zbn K.c.ra K.c.mo K.c.sh s.P s.M (pcL s.G lo k) lo k,M:=Zbm K.c.mo K.c.sh s.M (pcL s.G lo k) lo k,opn:=ZcD s.opn j } { a with AO:=a.AO,cO:=a.cO }):=by
  have:=HX.out.set_ 18 (.slice a.AO (ZcD s.opn j).length a.cO)
  simpa [ZcC] using this
 have hO2:=HO4.out.kept hg2 (.inr (Zab HO4.out HX.out (by decide)));have hbut:But (fun i=>i=mb\/ZaX a.AO=some i) w3 (w4.setCell ⟨mb,18,none⟩ (.slice a.AO (ZcD s.opn j).length a.cO)):=
  (But.of_own (S:=fun i=>i=mb\/ZaX a.AO=some i) HG4.out (fun g hg=>.inr ((Zaf _ _ _).symm.trans hg))).trans (But.of_gr hg2 (.inl rfl))
 have hm:=HM3.out.setO (opn:=ZcD s.opn j) (AO:=a.AO) (cO:=a.cO) hbut hB2 hO2 (fun g hg=>.inl hg) (YaH (List.length_filter_le _ _) HM.out.ol);refine⟨rfl,⟨F,_,hm,fun i hi=>.inl (HF.out i hi),fun i hi=>.inl (HMu.out i hi)⟩,(((But.of_below S HB1.out).call HB2.out).trans (HB3.out.mono (fun i _ hi=>?_))).trans (hbut.mono (fun i _ hi=>?_))⟩
 ·rcases hi with hi|hi
  ·exact HMu.out i (.inr (.inl hi))
  ·exact HMu.out i (.inr (.inr (.inl hi)))
 ·rcases hi with hi|hi
  ·exact HMu.out i (.inl hi)
  ·exact HMu.out i (.inr (.inr (.inr (.inr (.inr hi)))))
def ZdF(ad:Bool)(G:List Int)(e k:Nat)(vs:List Int):List Int:=if ad then ZbK G e vs k else G.take e++(vs++G.drop (e+k))
theorem Zk4{ad:Bool}{G:List Int}{e k:Nat}{vs:List Int}(hv:vs.length=k)(he:e+k<=G.length):(ZdF ad G e k vs).length=G.length:=by
 unfold ZdF
 cases ad with
 |true=>exact Zbg _ _ _ _
 |false=>simp[hv];omega
theorem ZgV(S T:Nat->Prop)(mb:Nat)(K:MC)(s:MS)(k1 t u:Int)(sd ad:Bool)(j1 j2 j3 j4 j5:Int)(e e2 k:Nat)(pr:Option Addr)(lb cp sn rc:Nat)(vs:List Int)(q:List (Zfh×List Int))(w:World)(hK:K.Ok)(h:Zaz S w mb K s)(hL:ZaP T w lb cp sn rc (((j1,j2,j3,j4,j5),vs)::q))(hd:∀i,S i->¬T i)(hk:e+k=e2)(he:e2<=K.NP)(hv:vs.length=k) :
  Calls prog 234 #[.pointer (some ⟨mb,0,none⟩),(.agg (Zea k1 t u sd ad j1 j2 j3 j4 j5 e e2)),.agg #[.pointer (some ⟨lb,0,none⟩),.pointer pr]] w fun en w'=>en=.returned (.int .i64 0)/\Zaz S w' mb K { s with G:=ZdF ad s.G e k vs }/\ZaP T w' lb cp sn (rc+1) q/\But (fun i=>S i\/T i) w w':=by
 obtain⟨F,a,hM,hF,hMu⟩:=h;obtain⟨lP,lM,lG,lR⟩:=hM.lens;have HM:=hid hM;have HF:=hid hF;have HMu:=hid hMu;have HTL:Hid (T lb):=hid (by obtain⟨_,_,_,_,_,hl⟩:=hL;exact hl.sb);have HL:=hid hL;have HD:=hid hd;have HKE:=hid hk;have HVL:=hid hv;have hnp:=hK.np;clear hM hF hMu hK lR hL hd hk hv
 go_enter func234,ntmps234
 go_wp2_with fail;obtain⟨w1,hw1⟩:∃w1,((w.alloc (.cells (Zea k1 t u sd ad j1 j2 j3 j4 j5 e e2) 222)).alloc (.cells #[.pointer (some ⟨lb,0,none⟩),.pointer pr] 341)).alloc (.cells #[.bool sd,.bool ad,.int .i64 j1,.int .i64 j2,.int .i64 j3,.int .i64 j4,.int .i64 j5,.int .i64 e,.int .i64 e2] 220)=w1:=⟨_,rfl⟩;have hb1:Below w.heap.size w w1:=by rw[<-hw1];exact((bA0 _).alloc (by simp) _).alloc (by simp;omega) _
 have ha1:Blk w1 (w.heap.size+1+1) 220 #[.bool sd,.bool ad,.int .i64 j1,.int .i64 j2,.int .i64 j3,.int .i64 j4,.int .i64 j5,.int .i64 e,.int .i64 e2]:=by rw[<-hw1];exact Blk.new' _ _ (by simp)
 rw[hw1];have HB1:=hid hb1;have HA1:=hid ha1;have HM1:=hid (HM.out.below hb1);have HL1:=hid (HL.out.step hb1.size (fun i hi _=>hb1.block i hi));clear hw1 hb1 ha1;((with_reducible refine(Zjn T lb cp sn rc q (j1,j2,j3,j4,j5) vs w1 HL1.out).mono ?_);rintro en w2 ⟨A2,n2,c2,rfl,hl2,hb2,ho2,hn2,ht2⟩);have hbs:∀i,i<w1.heap.size->S i->w2.heap[i]?=w1.heap[i]?:=fun i hi hS=>hb2.block i hi (fun e=>HD.out i hS (by rw[e];exact HTL.out))
 have hm2:ZaQ F w2 mb K s a:=HM1.out.step hb2.size (fun i hi hFi=>hbs i hi (HF.out i hFi)) (fun i hi=>hbs i (HM1.out.mu_lt hi) (HMu.out i hi));have ha2:Blk w2 (w.heap.size+1+1) 220 #[.bool sd,.bool ad,.int .i64 j1,.int .i64 j2,.int .i64 j3,.int .i64 j4,.int .i64 j5,.int .i64 e,.int .i64 e2]:=HA1.out.but hb2 (fun e=>by
  have:=HL.out;obtain⟨_,_,_,_,_,hl⟩:=this;have:=hl.blk.lt
  omega)
 have HM2:=hid hm2;have HA2:=hid ha2;have HL2:=hid hl2;have HB2:=hid hb2;have HO2:=hid ho2;have HT2:=hid ht2;have HN2:Hid (n2=k):=hid (by have:=ho2.1;rw[Zay,Nat.mul_one] at this;rw[<-this];exact HVL.out);clear hbs hm2 ha2 hl2 hb2 ho2 hn2 ht2;go_wp2_with fail;obtain⟨w3,hw3⟩:∃w3,w2.alloc (.cells #[.int .i64 j1,.int .i64 j2,.int .i64 j3,.int .i64 j4,.int .i64 j5,.slice A2 n2 c2] 259)=w3:=⟨_,rfl⟩;have hb3:Below w2.heap.size w2 w3:=by rw[<-hw3];exact bA0 _
 have hg3:Blk w3 w2.heap.size 259 #[.int .i64 j1,.int .i64 j2,.int .i64 j3,.int .i64 j4,.int .i64 j5,.slice A2 n2 c2]:=by rw[<-hw3];exact Blk.new _ _ _
 rw[hw3];have HM3:=hid (HM2.out.below hb3);have HA3:=hid (HA2.out.kept hb3);have HL3:=hid (HL2.out.step hb3.size (fun i hi _=>hb3.block i hi));have HO3:=hid (Zac HO2.out hb3);have HG3:=hid hg3;have HB3:=hid hb3;clear hw3 hb3 hg3;have a7:=HA3.out.cell 7;have a8:=HA3.out.cell 8;have a1:=HA3.out.cell 1;have al:=HA3.out.lt;have g5:=HG3.out.cell 5;have gl:=HG3.out.lt;have m13:=cv13 HM3.out.blk;have ml:=HM3.out.blk.lt;have hcap:K.NP<=a.cG:=Zdq HM3.out.grow;obtain⟨Aw,hAw⟩:∃Aw,Zax (some ⟨a.gg,0,none⟩) a.cG e=Aw:=⟨_,rfl⟩;have hsl:=fun W=>Zcm (P:=prog) (T:=74) (A:=some ⟨a.gg,0,none⟩) (n:=K.NP) (c:=a.cG) (e:=e) (e2:=e2) (k:=k) (c1:=a.cG-e) (P1:=Aw) underlying74 (fun W=>rfl) (by have:=HKE.out;omega) (by omega) (by have:=HKE.out;omega) rfl hAw W
 have HAW:=hid hAw;have hsg:S a.gg:=HMu.out a.gg (.inr (.inr (.inr (.inl rfl))));have HFIN:Hid (∀W,W.ownsRow 0 2 1 (.slice (some ⟨a.gg,0,none⟩) K.NP a.cG) K.NP (iv (ZdF ad s.G e k vs))->w3.grownBy W (some a.gg)->(Ending.returned (.int .i64 0)=Ending.returned (.int .i64 0)/\Zaz S W mb K { s with G:=ZdF ad s.G e k vs }/\ZaP T W lb cp sn (rc+1) q/\But (fun i=>S i\/T i) w W)):=hid (by
  intro W hr hg;have hbg:=But.of_gr (S:=fun b=>b=a.gg) hg rfl;refine⟨rfl,⟨F,a,HM3.out.setG hbg hr,HF.out,HMu.out⟩,HL3.out.step hg.size (fun i hi hT=>hbg.block i hi (fun e1=>HD.out i (by rw[e1];exact hsg) hT)),?_⟩;refine(((But.of_below _ HB1.out).trans (HB2.out.mono (fun i _ hi=>?_))).call HB3.out).trans (hbg.mono (fun i _ hi=>?_))
  ·exact .inr (by rw[hi];exact HTL.out)
  ·exact .inl (by rw[hi];exact hsg))
 have hn2:=HN2.out;subst hn2;clear hAw hsg;go_region
 cases ad with
 |true=>
  have HAD:=hid (ZfZ (some ⟨a.gg,0,none⟩) K.NP a.cG e n2 (a.cG-e) s.G A2 c2 vs 0 w3.drew (Zbi HM3.out.grow) lG (by omega) (by have:=HKE.out;omega) HVL.out (Rd.of_own (Zbi HO3.out)) (fun b o' hb h0 e1=>HD.out b (HMu.out b (.inr (.inr (.inr (.inl (by simpa [Value.ownBlock] using e1.symm)))))) (HT2.out b (by rw[hb];rfl))));rw[HAW.out] at HAD;go_wp2_with fail;((with_reducible refine HAD.out.mono ?_);rintro en w4 ⟨rfl,hz4,hg4⟩);have HZ4:=hid hz4;have HG4:Hid (w3.grownBy w4 (some a.gg)):=hid (ZaB ((bR0 w3.heap.size w3).drew) hg4);clear hz4 hg4;go_wp2_with fail;go_ret;exact⟨rfl,(HFIN.out _ HZ4.out HG4.out).2⟩
 |false=>
  have HR3:=hid (Rd.of_own (Zbi HO3.out));have HGR:=hid (Zbi HM3.out.grow);have HEK:Hid (e+n2<=K.NP):=hid (by have:=HKE.out;omega)
  go_wp2_with (refine ZbP rfl (.tmp 41) (.tmp 43) _ _ rfl underlying74 (by kernel_rfl) (some ⟨a.gg,0,none⟩) K.NP a.cG e n2 (a.cG-e) s.G A2 c2 vs 0 Aw HAW.out rfl rfl HGR.out lG HEK.out HVL.out HR3.out ?_;intro w4 hown4 hg4)
  go_ret;exact⟨rfl,(HFIN.out _ hown4 (ZaB ((bR0 w3.heap.size w3).drew) hg4)).2⟩
def Za1(K:MC)(s:MS)(x:ZaH):MS:=
 if x.1.1=1 then { s with G:=ZcP K s.P s.G (Ztn K x.1.2.1 x.1.2.2) }
 else if x.1.1=2 then { s with opn:=s.opn++[x.1.2.2] }
 else if x.1.1=5 then
  match K.pc.bks[x.1.2.2.toNat]? with
  |some (lo,hi)=>{ s with P:=Zbn K.c.ra K.c.mo K.c.sh s.P s.M (pcL s.G lo.toNat (hi-lo).toNat) lo.toNat (hi-lo).toNat,M:=Zbm K.c.mo K.c.sh s.M (pcL s.G lo.toNat (hi-lo).toNat) lo.toNat (hi-lo).toNat,opn:=ZcD s.opn x.1.2.2 }
  |none=>s
 else if x.1.1=6 then { s with rcd:=s.rcd++[(s.P,s.M)],G:=Zas K.NP }
 else s
structure ZfT(K:MC)(x:ZaH):Prop where
 t:0<=x.1.2.1/\x.1.2.1<=1000000
 one:x.1.1=1->-1000<=x.1.2.2/\x.1.2.2<=1000
 five:x.1.1=5->∃j:Nat,x.1.2.2=j/\j<K.pc.nb
 act:x.1.1=3\/x.1.1=4->∃e e2:Nat,x.2.2.2.1=e/\x.2.2.2.2=e2/\e<=e2/\e2<=K.NP
structure MS.Small(s:MS):Prop where
 cnt:s.cnt<1000000000000
 opn:s.opn.length<1000000
 rcd:s.rcd.length<1000
section
variable{S:Nat→Prop}{mb:Nat}{K:MC}{s:MS}{w W:World}
theorem Ziy(h:Zaz S w mb K s)(hb:Below w.heap.size w W):Zaz (fun i=>S i/\i<w.heap.size) W mb K s:=
 (h.mono (fun i hi hS=>⟨hS,hi⟩)).step hb.size (fun i hi hS=>hb.block i hS.2)
theorem Zwm{w':World}(h:But (fun i=>S i/\i<w.heap.size) W w'):But (fun i=>i<w.heap.size) W w':=h.mono (fun i _ hi=>hi.2)
theorem ZgW{S1:Nat->Prop}{w1 w':World}(h1:But S w w1)(h2:But S1 w1 w')(hS:∀i,i<w.heap.size->S1 i->S i):But S w w':=
 ⟨h2.os.trans h1.os,h2.tape.trans h1.tape,h2.output.trans h1.output,YaH h1.size h2.size,fun i hi hn=>(h2.block i (YaK hi h1.size) (fun e=>hn (hS i hi e))).trans (h1.block i hi hn)⟩
end
theorem Zo1(S:Nat->Prop)(mb:Nat)(K:MC)(s:MS)(x:ZaH)(pl pr:Option Addr)(w:World)(hK:K.Ok)(h:Zaz S w mb K s)(hx:s.its[s.nx]?=some x)(hk:x.1.1=1\/x.1.1=2\/x.1.1=5\/x.1.1=6)(hi:ZfT K x)(hs:s.Small) :
  Calls prog 128 #[.pointer (some ⟨mb,0,none⟩),.pointer pl,.pointer pr] w fun e w'=>e=.returned (.int .i64 0)/\Zaz (fun i=>S i\/w.heap.size<=i) w' mb K (ZaS K (Za1 K s x) x.1.2.1)/\But S w w':=by
 obtain⟨⟨k1,t,u⟩,⟨⟨sd,ad⟩,⟨j1,j2,j3,j4,j5⟩,⟨j6,j7⟩⟩⟩:=x;have fin:∀(f:FuncId) (kk:Nat) (s1:MS),k1=(kk:Int)->(∀W,(Instr.index 336 (.agg ZgT) (.int .i64 kk)).run prog W=.ok (fnV f) W)->(∀args w,(callFunc f args).run prog w=.ok (.enter f args) w) ->
   s1.its=s.its->s1.nx=s.nx->s1.cnt=s.cnt->Za1 K s ((k1,t,u),((sd,ad),(j1,j2,j3,j4,j5),(j6,j7)))=s1 ->
   (∀W,Below w.heap.size w W->Calls prog f #[.pointer (some ⟨mb,0,none⟩),(.agg (Zea k1 t u sd ad j1 j2 j3 j4 j5 j6 j7)),.agg #[.pointer pl,.pointer pr]] W fun e w'=>e=.returned (.int .i64 0)/\Zaz (fun i=>(S i/\i<w.heap.size)\/W.heap.size<=i) w' mb K s1/\But (fun i=>S i/\i<w.heap.size) W w') ->
   Calls prog 128 #[.pointer (some ⟨mb,0,none⟩),.pointer pl,.pointer pr] w fun e w'=>e=.returned (.int .i64 0)/\Zaz (fun i=>S i\/w.heap.size<=i) w' mb K (ZaS K (Za1 K s ((k1,t,u),((sd,ad),(j1,j2,j3,j4,j5),(j6,j7)))) t)/\But S w w':=by
  intro f kk s1 hkk hix he h1 h2 h3 hw hf;subst hkk;rw[hw];refine(Zeq S (fun i=>S i\/w.heap.size<=i) (fun w1=>But S w w1) mb K s s1 f kk t u sd ad j1 j2 j3 j4 j5 j6 j7 pl pr w hK h hx hix he (fun W hb=>(hf W hb).mono ?_) h1 h2 h3 hs.cnt hi.t).mono ?_
  ·rintro e w' ⟨rfl,hm,hbu⟩;refine⟨rfl,hm.mono (fun i _ hi'=>?_),(But.of_below S hb).trans (hbu.mono (fun i _ hi'=>hi'.1)),Zwm hbu⟩
   rcases hi' with hi'|hi'
   ·exact .inl hi'.1
   ·exact .inr (YaH hb.size hi')
  ·rintro e w' ⟨rfl,w1,hr,hz,-,hb2,hm⟩;refine⟨rfl,hm.mono (fun i _ hi'=>?_),ZgW hr hb2 (fun i hi' hs1=>?_)⟩
   ·rcases hi' with hi'|hi'
    ·exact hi'
    ·exact .inr (YaH hz hi')
   ·rcases hs1 with hs1|hs1
    ·exact hs1
    ·omega
 have hk':k1=1\/k1=2\/k1=5\/k1=6:=hk
 rcases hk' with rfl|rfl|rfl|rfl
 ·refine fin 231 1 { s with G:=ZcP K s.P s.G (Ztn K t u) } rfl (fun W=>rfl) (fun _ _=>rfl) rfl rfl rfl rfl (fun W hb=>?_);exact ZgU _ mb K s 1 t u sd ad j1 j2 j3 j4 j5 j6 j7 pl pr W hK (Ziy h hb) (hi.one rfl)
 ·refine fin 232 2 { s with opn:=s.opn++[u] } rfl (fun W=>rfl) (fun _ _=>rfl) rfl rfl rfl rfl (fun W hb=>?_);exact ZhJ _ mb K s 2 t u sd ad j1 j2 j3 j4 j5 j6 j7 pl pr W (Ziy h hb) hs.opn
 ·obtain⟨j,hj,hjn⟩:=hi.five rfl;have hj':u=(j:Int):=hj;subst hj';have hlt:j<K.pc.bks.length:=by rw[PlC.bks_length];exact hjn
  obtain⟨y,hy⟩:∃y,K.pc.bks[j]?=some y:=⟨_,YaA hlt⟩;obtain⟨b1,b2,b3⟩:=PlC.bks_in hy;rw[hK.pcP] at b3;obtain⟨y1,y2⟩:=y;dsimp only at b1 b2 b3;obtain⟨lo,rfl⟩:∃n:Nat,y1=n:=⟨y1.toNat,by omega⟩;obtain⟨hi',rfl⟩:∃n:Nat,y2=n:=⟨y2.toNat,by omega⟩;have e:Za1 K s ((5,t,(j:Int)),((sd,ad),(j1,j2,j3,j4,j5),(j6,j7)))={ s with P:=Zbn K.c.ra K.c.mo K.c.sh s.P s.M (pcL s.G lo (hi'-lo)) lo (hi'-lo),M:=Zbm K.c.mo K.c.sh s.M (pcL s.G lo (hi'-lo)) lo (hi'-lo),opn:=ZcD s.opn j }:=by
   unfold Za1;rw[if_neg (show ¬((5:Int)=1) by decide),if_neg (show ¬((5:Int)=2) by decide),if_pos rfl];simp only[Int.toNat_natCast,hy];rw[show ((hi':Int)-(lo:Int)).toNat=hi'-lo by omega]
  refine fin 235 5 { s with P:=Zbn K.c.ra K.c.mo K.c.sh s.P s.M (pcL s.G lo (hi'-lo)) lo (hi'-lo),M:=Zbm K.c.mo K.c.sh s.M (pcL s.G lo (hi'-lo)) lo (hi'-lo),opn:=ZcD s.opn j } rfl (fun W=>rfl) (fun _ _=>rfl) rfl rfl rfl e (fun W hb=>?_);exact ZhL _ mb K s 5 t j sd ad j1 j2 j3 j4 j5 j6 j7 pl pr W lo hi' (hi'-lo) hK (Ziy h hb) hy (by omega) (by omega)
 ·refine fin 236 6 { s with rcd:=s.rcd++[(s.P,s.M)],G:=Zas K.NP } rfl (fun W=>rfl) (fun _ _=>rfl) rfl rfl rfl rfl (fun W hb=>?_);exact ZhK _ mb K s 6 t u sd ad j1 j2 j3 j4 j5 j6 j7 pl pr W hK (Ziy h hb) hs.rcd
theorem ZmH(S T:Nat->Prop)(mb:Nat)(K:MC)(s:MS)(x:ZaH)(pl:Option Addr)(lb cp sn rc:Nat)(q:List (Zfh×List Int))(w:World)(hK:K.Ok)(h:Zaz S w mb K s)(hL:ZaP T w lb cp sn rc q)(hd:∀i,i<w.heap.size->S i->¬T i)(hroom:sn-rc<cp)(hs9:sn<1000000000)(hx:s.its[s.nx]?=some x)(hk:x.1.1=3)(hi:ZfT K x)(hs:s.Small) :
  Calls prog 128 #[.pointer (some ⟨mb,0,none⟩),.pointer pl,.pointer (some ⟨lb,0,none⟩)] w fun e w'=>e=.returned (.int .i64 0)/\∃B,w.heap.size<=B/\Zaz (fun i=>S i\/B<=i) w' mb K (ZaS K s x.1.2.1)/\ZaP (fun i=>T i\/(w.heap.size<=i/\i<B)) w' lb cp (sn+1) rc (q++[(x.2.2.1,pcL s.G x.2.2.2.1.toNat (x.2.2.2.2-x.2.2.2.1).toNat)])/\But (fun i=>S i\/T i) w w':=by
 obtain⟨⟨k1,t,u⟩,⟨⟨sd,ad⟩,⟨j1,j2,j3,j4,j5⟩,⟨j6,j7⟩⟩⟩:=x;have hk':k1=3:=hk;subst hk';obtain⟨e,e2,h6,h7,h8,h9⟩:=hi.act (.inl rfl);have h6':j6=(e:Int):=h6;have h7':j7=(e2:Int):=h7;subst h6' h7';have hT:Hid (∀i,T i->True):=hid (fun _ _=>trivial);have hL':ZaP (fun i=>T i/\i<w.heap.size) w lb cp sn rc q:=hL.mono (fun i hi hT=>⟨hT,hi⟩);refine(Zeq S (fun i=>S i/\i<w.heap.size) (fun w1=>ZaP (fun i=>(T i/\i<w.heap.size)\/w.heap.size<=i) w1 lb cp (sn+1) rc (q++[((j1,j2,j3,j4,j5),pcL s.G e (e2-e))])/\But (fun i=>T i) w w1) mb K s s 233 3 t u sd ad j1 j2 j3 j4 j5 e e2 pl (some ⟨lb,0,none⟩) w hK h hx (fun W=>rfl) (fun _ _=>rfl) (fun W hb=>?_) rfl rfl rfl hs.cnt hi.t).mono ?_
 ·refine(Zk3 (fun i=>S i/\i<w.heap.size) (fun i=>T i/\i<w.heap.size) mb K s 3 t u sd ad j1 j2 j3 j4 j5 e e2 (e2-e) pl lb cp sn rc q W hK (Ziy h hb) (hL'.step hb.size (fun i hi hT=>hb.block i hT.2)) (fun i hi hT=>hd i hi.2 hi.1 hT.1) hroom hs9 (by omega) h9).mono ?_;rintro en w' ⟨rfl,hm,hl,hbu⟩;refine⟨rfl,hm,⟨hl.mono (fun i _ hi=>?_),(But.of_below _ hb).trans (hbu.mono (fun i _ hi=>hi.1))⟩,hbu.mono (fun i _ hi=>hi.2)⟩
  rcases hi with hi|hi
  ·exact .inl hi
  ·exact .inr (YaH hb.size hi)
 ·rintro en w' ⟨rfl,w1,⟨hl,hbt⟩,hz,-,hb2,hm⟩;refine⟨rfl,w1.heap.size,hz,hm.mono (fun i _ hi=>?_),?_,ZgW (S:=fun i=>S i\/T i) (hbt.mono (fun i _ hi=>.inr hi)) hb2 (fun i _ hi=>.inl hi.1)⟩
  ·rcases hi with hi|hi
   ·exact .inl hi.1
   ·exact .inr hi
  ·have e1:((e2:Int)-(e:Int)).toNat=e2-e:=by omega
   dsimp only;rw[e1,Int.toNat_natCast];refine(hl.mono (T:=fun i=>T i\/(w.heap.size<=i/\i<w1.heap.size)) (fun i hi hT=>?_)).step hb2.size (fun i hi hT=>hb2.block i hi (fun hS=>?_))
   ·rcases hT with hT|hT
    ·exact .inl hT.1
    ·exact .inr ⟨hT,hi⟩
   ·rcases hT with hT|hT
    ·exact hd i hS.2 hS.1 hT
    ·have:=hS.2;omega
theorem ZmI(S T:Nat->Prop)(mb:Nat)(K:MC)(s:MS)(x:ZaH)(pr:Option Addr)(lb cp sn rc:Nat)(vs:List Int)(q:List (Zfh×List Int))(w:World)(hK:K.Ok)(h:Zaz S w mb K s)(hL:ZaP T w lb cp sn rc ((x.2.2.1,vs)::q))(hd:∀i,i<w.heap.size->S i->¬T i)(hx:s.its[s.nx]?=some x)(hk:x.1.1=4)(hi:ZfT K x)(hs:s.Small)(hv:vs.length=(x.2.2.2.2-x.2.2.2.1).toNat) :
  Calls prog 128 #[.pointer (some ⟨mb,0,none⟩),.pointer (some ⟨lb,0,none⟩),.pointer pr] w fun e w'=>e=.returned (.int .i64 0)/\∃B,w.heap.size<=B/\Zaz (fun i=>S i\/B<=i) w' mb K (ZaS K { s with G:=ZdF x.2.1.2 s.G x.2.2.2.1.toNat (x.2.2.2.2-x.2.2.2.1).toNat vs } x.1.2.1)/\ZaP T w' lb cp sn (rc+1) q/\But (fun i=>S i\/T i) w w':=by
 obtain⟨⟨k1,t,u⟩,⟨⟨sd,ad⟩,⟨j1,j2,j3,j4,j5⟩,⟨j6,j7⟩⟩⟩:=x;have hk':k1=4:=hk;subst hk';obtain⟨e,e2,h6,h7,h8,h9⟩:=hi.act (.inr rfl);have h6':j6=(e:Int):=h6;have h7':j7=(e2:Int):=h7;subst h6' h7';have e1:((e2:Int)-(e:Int)).toNat=e2-e:=by omega
 dsimp only at hL hv ⊢;rw[e1] at hv;rw[e1,Int.toNat_natCast];have hL':ZaP (fun i=>T i/\i<w.heap.size) w lb cp sn rc (((j1,j2,j3,j4,j5),vs)::q):=hL.mono (fun i hi hT=>⟨hT,hi⟩);refine(Zeq S (fun i=>S i/\i<w.heap.size) (fun w1=>ZaP (fun i=>T i/\i<w.heap.size) w1 lb cp sn (rc+1) q/\But (fun i=>S i\/T i) w w1) mb K s { s with G:=ZdF ad s.G e (e2-e) vs } 234 4 t u sd ad j1 j2 j3 j4 j5 e e2 (some ⟨lb,0,none⟩) pr w hK h hx (fun W=>rfl) (fun _ _=>rfl) (fun W hb=>?_) rfl rfl rfl hs.cnt hi.t).mono ?_
 ·refine(ZgV (fun i=>S i/\i<w.heap.size) (fun i=>T i/\i<w.heap.size) mb K s 4 t u sd ad j1 j2 j3 j4 j5 e e2 (e2-e) pr lb cp sn rc vs q W hK (Ziy h hb) (hL'.step hb.size (fun i hi hT=>hb.block i hT.2)) (fun i hi hT=>hd i hi.2 hi.1 hT.1) (by omega) h9 hv).mono ?_;rintro en w' ⟨rfl,hm,hl,hbu⟩;refine⟨rfl,hm,⟨hl,(But.of_below _ hb).trans (hbu.mono (fun i _ hi=>?_))⟩,hbu.mono (fun i _ hi=>?_)⟩
  ·rcases hi with hi|hi
   ·exact .inl hi.1
   ·exact .inr hi.1
  ·rcases hi with hi|hi
   ·exact hi.2
   ·exact hi.2
 ·rintro en w' ⟨rfl,w1,⟨hl,hbt⟩,hz,-,hb2,hm⟩;refine⟨rfl,w1.heap.size,hz,hm.mono (fun i _ hi=>?_),?_,ZgW hbt hb2 (fun i _ hi=>.inl hi.1)⟩
  ·rcases hi with hi|hi
   ·exact .inl hi.1
   ·exact .inr hi
  ·exact(hl.mono (T:=T) (fun i hi hT=>hT.1)).step hb2.size (fun i hi hT=>hb2.block i hi (fun hS=>hd i hS.2 hS.1 hT))
