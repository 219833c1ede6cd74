/- Lemmas. -/
import Derived.Test.YtkmaeipoaoikpaaGreatEC14
namespace Go.Proofs.YtkmaeipoaoikpaaGreat
set_option linter.all false
set_option maxRecDepth 100000
set_option maxHeartbeats 4000000
open Lib (hid)
open Go.RowKit
open Tryz
structure Ztj(pc:PlC)(c:Cfg):Prop where
 wk:c.wk=pc.m
 ch:c.ch=pc.ch
 mi:c.mi=pc.mi
 wi:c.wi=pc.wi
 bu:c.bu=pc.bu
 s0:0<=c.st
 s1:c.st<=12
def PlC.lenI(pc:PlC)(x:Int):Nat:=if 0<=x/\x<pc.m then (pc.itemsI x 0).length else 0
def PlC.stepI(pc:PlC)(st x t:Int):List ZaH:=if 0<=x/\x<pc.m/\0<=t/\t<st then pc.itemsI x t else []
theorem PlC.lenI_in(pc:PlC)(k:Nat)(h:k<pc.m):pc.lenI k=(pc.itemsI (k:Int) 0).length:=if_pos (by omega)
theorem PlC.lenI_out(pc:PlC)(x:Int)(h:¬(0<=x/\x<pc.m)):pc.lenI x=0:=if_neg h
section
variable(pc:PlC)(c:Cfg)(A:Option Addr)(n cap b:Nat)(x t:Int)(w:World)
theorem ZmA(h:Zdx w b pc c A n cap) :
  Calls prog 112 #[.pointer (some ⟨b,0,none⟩),.int .i64 x] w fun e w'=>e=.returned (.int .i64 (pc.lenI x))/\w=w':=by
 obtain⟨Ab,cb,Ag,cg,Al,cl,h1,_,_,h4,_⟩:=h;have c14:w.cell? ⟨b,14,none⟩=some (.slice Al pc.m cl):=h1.cell 14;have lb:=h1.lt;have HLL:=hid pc.lensL_length
 by_cases hx:0<=x/\x<pc.m
 ·obtain⟨k,rfl⟩:=YaM hx.1;have hk:k<pc.m:=by omega
  have hkl:k<pc.lensL.length:=by rw[HLL.out];exact hk
  obtain⟨g,o,y,rfl,hg,hy,d0⟩:=Zb7 HLL.out h4 hk;have e0:=pc.lensL_at k hk;rw[hy] at e0;injection e0 with e0
  have HE:Hid (y=(pc.lenI (k:Int):Nat)):=hid (by rw[pc.lenI_in k hk];exact e0);obtain⟨m,hm⟩:∃m,pc.m=m:=⟨_,rfl⟩;rw[hm] at c14 hk;have i1:decide ((k:Int)<0)=false:=YaI (by omega);have i2:decide ((m:Int)<=(k:Int))=false:=YaI (by omega);have i3:(0:Int)<=(k:Int):=by omega
  have i4:(k:Int)<(m:Int):=by omega
  clear h1 h4 hy e0 hm hx hkl HLL
  go_enter func112,ntmps112
  go_wp2_with fail;go_ret;exact⟨ZaG HE.out,rfl⟩
 ·have HE:Hid ((0:Int)=(pc.lenI x:Nat)):=hid (by rw[pc.lenI_out x hx];rfl);obtain⟨m,hm⟩:∃m,pc.m=m:=⟨_,rfl⟩;rw[hm] at c14 hx;clear h1 h4 hm HLL
  by_cases h0:x<0
  ·have i1:decide (x<0)=true:=YaJ h0
   go_enter func112,ntmps112
   go_wp2_with fail;go_ret;exact⟨ZaG HE.out,rfl⟩
  ·have i1:decide (x<0)=false:=YaI h0;have i2:decide ((m:Int)<=x)=true:=YaJ (by omega);clear hx
   go_enter func112,ntmps112
   go_wp2_with fail;go_ret;exact⟨ZaG HE.out,rfl⟩
theorem PlC.lenI_pos(pc:PlC)(x:Int):0<=x/\x<pc.m↔pc.lenI x≠0:=by
 unfold PlC.lenI
 split
 ·rename_i h
  have:=pc.itemsI_pos x 0
  constructor
  ·intro _;omega
  ·intro _;exact h
 ·rename_i h;simp[h]
theorem ZfR(hp:pc.Ok)(hf:Ztj pc c)(h:Zdx w b pc c A n cap) :
  Calls prog 46 #[.pointer (some ⟨b,0,none⟩),.int .i64 x,.int .i64 t] w (Zal w 222 12 (pc.stepI c.st x t).length (ZaJ (pc.stepI c.st x t))):=by
 have HLe:=hid (fun x=>ZmA pc c A n cap b x w h);obtain⟨Ab,cb,Ag,cg,Al,cl,h1,h2,h3,h4,_⟩:=h;have HI:=hid (ZgM pc c A n cap Ab cb Ag cg x t w hp hf.wk hf.ch hf.mi h2 h3);have HPos:=hid (pc.lenI_pos x);obtain⟨q,hq⟩:∃q,pc.lenI x=q:=⟨_,rfl⟩;have HLx:=HLe.out x;rw[hq] at HLx HPos;have HLX:=hid HLx;clear hq HLx HLe;have no:¬(0<=x/\x<pc.m/\0<=t/\t<c.st)->∀w':World,w=w'->Zal w 222 12 (pc.stepI c.st x t).length (ZaJ (pc.stepI c.st x t)) (.returned (.slice none 0 0)) w':=by
  rintro hno w' rfl;rw[show pc.stepI c.st x t=[] from if_neg hno];exact⟨none,0,rfl,World.ownsRow_nil _ _ _ _,bR0 _ _⟩
 have HNO:=hid no;clear no
 by_cases hq0:q=0
 ·subst hq0;have HX:Hid (¬(0<=x/\x<pc.m/\0<=t/\t<c.st)):=hid (fun hh=>(HPos.out.1 ⟨hh.1,hh.2.1⟩) rfl);clear h1 h2 h3 h4 hf
  go_enter func46,ntmps46
  go_wp2_with fail;((with_reducible refine HLX.out.mono ?_);rintro e w1 ⟨rfl,rfl⟩);go_wp2_with fail;go_ret;exact HNO.out HX.out _ rfl
 ·have hxx:=HPos.out.2 hq0;have e0:((q:Int)==0)=false:=by simp;omega
  have hx1:=hxx.1;have HXM:=hid hxx.2
  by_cases ht0:t<0
  ·have e1:decide (t<0)=true:=YaJ ht0;have HX:Hid (¬(0<=x/\x<pc.m/\0<=t/\t<c.st)):=hid (fun hh=>by omega);clear h1 h2 h3 h4 hf hxx
   go_enter func46,ntmps46
   go_wp2_with fail;((with_reducible refine HLX.out.mono ?_);rintro e w1 ⟨rfl,rfl⟩);go_wp2_with fail;go_ret;exact HNO.out HX.out _ rfl
  ·have e1:decide (t<0)=false:=YaI ht0;have c7:=cv7 h1;have lb:=h1.lt
   by_cases ht1:c.st<=t
   ·have e2:decide (c.st<=t)=true:=YaJ ht1;have HX:Hid (¬(0<=x/\x<pc.m/\0<=t/\t<c.st)):=hid (fun hh=>by omega);clear h1 h2 h3 h4 hf hxx
    go_enter func46,ntmps46
    go_wp2_with fail;((with_reducible refine HLX.out.mono ?_);rintro e w1 ⟨rfl,rfl⟩);go_wp2_with fail;go_ret;exact HNO.out HX.out _ rfl
   ·have e2:decide (c.st<=t)=false:=YaI ht1;have HX:Hid (pc.stepI c.st x t=pc.itemsI x t):=hid (if_pos ⟨hxx.1,hxx.2,by omega,by omega⟩);have s0:=cv0 h1;have s1:=cv1 h1;have s2:=cv2 h1;have s3:=cv3 h1;have s4:=cv4 h1;have s5:=cv5 h1;have s6:=cv6 h1;have s8:=cv8 h1;have s9:=cv9 h1;have s10:=cv10 h1;have s11:=cv11 h1;have s12:w.cell? ⟨b,12,none⟩=some (.slice Ab pc.nb cb):=h1.cell 12;have s13:w.cell? ⟨b,13,none⟩=some (.slice Ag (cnt pc.nb pc.wi) cg):=h1.cell 13;clear h1 h2 h3 h4 hf hxx
    go_enter func46,ntmps46
    go_wp2_with fail;((with_reducible refine HLX.out.mono ?_);rintro e w1 ⟨rfl,rfl⟩);go_wp2_with fail;((with_reducible refine HI.out.mono ?_);rintro e w2 ⟨A2,c2,rfl,hown2,hb2⟩);have HO:=hid (And.intro hown2 hb2);clear hown2 hb2;go_wp2_with fail;go_ret;rw[HX.out];exact⟨A2,c2,rfl,HO.out.1,HO.out.2⟩
end
abbrev Zea(k1 k2 k3:Int)(sd ad:Bool)(s b p r i x y:Int):Array Value:=#[.int .i64 k1,.int .i64 k2,.int .i64 k3,.bool sd,.bool ad,.int .i64 s,.int .i64 b,.int .i64 p,.int .i64 r,.int .i64 i,.int .i64 x,.int .i64 y]
structure MC where
 l:List Int
 n:Nat
 NP:Nat
 c:Cfg
 x:Nat
 m:Nat
 N:Nat
 M:Nat
 f:Nat->List Int×List Int
 L:List Int
 b:Nat
 st:Nat
 q:Nat
 E:Nat
 pc:PlC
structure MC.Ok(K:MC):Prop where
 len:K.l.length=K.n
 n2:2<=K.n
 n16:K.n<=16
 pos:∀(k:Nat) (x:Int),K.l[k]?=some x->1<=x/\x<=1000
 cnt:ofN K.l (K.n-1)=K.NP
 np:K.NP<=1000
 np1:1<=K.NP
 q0:0<=K.c.sh
 q62:K.c.sh<=62
 hN:K.N=szN K.l 0
 hM:K.M=szN K.l (K.n-1)
 fl:∀i,i<K.m->(K.f (i+1)).1.length=K.N/\(K.f (i+1)).2.length=K.M
 fi:∀i,i<K.m->Zaw (K.f (i+1)).1
 smp:Zuc K.m K.b K.st K.q K.E
 dr:K.E*(K.m-1)<=K.L.length
 pcok:K.pc.Ok
 fits:Ztj K.pc K.c
 pcP:K.pc.P=K.NP
 xw:K.x<K.pc.m
 st:K.c.st=(K.st:Int)
 ra:In1 K.c.ra
 mo:In1 K.c.mo
theorem MC.Ok.net{K:MC}(h:K.Ok){P:List Int}(hl:P.length=K.NP)(hi:Zaw P):NetP K.l K.n K.NP P K.c.sh:=
 ⟨h.len,h.n2,h.n16,h.pos,h.cnt,h.np,hl,hi,h.q0,h.q62⟩
structure MS where
 P:List Int
 M:List Int
 G:List Int
 rcd:List (List Int×List Int)
 its:List ZaH
 nx:Nat
 cnt:Nat
 opn:List Int
structure MA where
 base:Nat
 bs:Nat
 S:Option Addr
 cS:Nat
 es:List StS
 smb:Nat
 plb:Nat
 A:Option Addr
 nA:Nat
 capA:Nat
 Ab:Option Addr
 cb:Nat
 gp:Nat
 cP:Nat
 gm:Nat
 cM:Nat
 gg:Nat
 cG:Nat
 AR:Option Addr
 cR:Nat
 rs:List StS
 AI:Option Addr
 cI:Nat
 AO:Option Addr
 cO:Nat
abbrev ZcC(K:MC)(s:MS)(a:MA):Array Value:=#[.int .i64 K.x,.int .i64 K.pc.m,.int .i64 K.pc.mi,.pointer (some ⟨a.bs,0,none⟩),.slice a.S K.m a.cS,.pointer (some ⟨a.smb,0,none⟩),.pointer (some ⟨a.plb,0,none⟩),.slice a.Ab K.pc.nb a.cb,.int .i64 K.c.ra,.int .i64 K.c.mo,.int .i64 K.c.sh,
 .slice (some ⟨a.gp,0,none⟩) K.NP a.cP,.slice (some ⟨a.gm,0,none⟩) K.NP a.cM,.slice (some ⟨a.gg,0,none⟩) K.NP a.cG,.slice a.AR s.rcd.length a.cR,.slice a.AI s.its.length a.cI,.int .i64 s.nx,.int .i64 s.cnt,.slice a.AO s.opn.length a.cO]
def ZjY(l:List (List Int×List Int)):Nat->List Int×List Int:=fun i=>l.getD (i-1) ([],[])
structure Zwg(W:World)(K:MC)(s:MS)(a:MA):Prop where
 shp:ZaC W a.base a.bs K.l K.n
 exs:W.ownsRow 0 162 2 (.slice a.S K.m a.cS) K.m (stv K.N K.M a.es)
 esl:a.es.length=K.m
 exr:ZcO W 0 K.N K.M a.es K.f
 smp:ZcB W 0 a.smb K.b K.st K.q K.E (Zat (K.q*K.b) K.b) (ZbU K.L K.m K.E)
 pln:Zdx W a.plb K.pc K.c a.A a.nA a.capA
 bks:W.ownsRow 0 218 2 (.slice a.Ab K.pc.nb a.cb) K.pc.nb (rv K.pc.bks)
 its:W.ownsRow 0 222 12 (.slice a.AI s.its.length a.cI) s.its.length (ZaJ s.its)
 rsl:a.rs.length=s.rcd.length
 rsr:ZcO W 0 K.NP K.NP a.rs (ZjY s.rcd)
def ZaX(A:Option Addr):Option Nat:=(Value.slice A 0 0).ownBlock
theorem Zaf(A:Option Addr)(n c:Nat):(Value.slice A n c).ownBlock=ZaX A:=by cases A<;>rfl
def Mu(mb:Nat)(a:MA)(i:Nat):Prop:=i=mb\/i=a.gp\/i=a.gm\/i=a.gg\/ZaX a.AR=some i\/ZaX a.AO=some i
structure ZaQ(F:Nat->Prop)(w:World)(mb:Nat)(K:MC)(s:MS)(a:MA):Prop where
 blk:Blk w mb 121 (ZcC K s a)
 fz:Hg F w (fun W=>Zwg W K s a)
 prow:w.ownsRow 0 2 1 (.slice (some ⟨a.gp,0,none⟩) K.NP a.cP) K.NP (iv s.P)
 mrow:w.ownsRow 0 2 1 (.slice (some ⟨a.gm,0,none⟩) K.NP a.cM) K.NP (iv s.M)
 grow:w.ownsRow 0 2 1 (.slice (some ⟨a.gg,0,none⟩) K.NP a.cG) K.NP (iv s.G)
 rrow:w.ownsRow 0 92 2 (.slice a.AR s.rcd.length a.cR) s.rcd.length (stv K.NP K.NP a.rs)
 orow:w.ownsRow 0 3 1 (.slice a.AO s.opn.length a.cO) s.opn.length (iv s.opn)
 npm:a.gp≠a.gm
 npg:a.gp≠a.gg
 nmg:a.gm≠a.gg
 nf:∀i,Mu mb a i->¬F i
 fw:∀i,F i->i<w.heap.size
 pin:Zaw s.P
 min:Zaw s.M
 rl:s.rcd.length<=1000
 nl:s.nx<=s.its.length
 il:s.its.length<=200000000
 cl:s.cnt<=1000000000000
 ol:s.opn.length<=1000000
def Zaz(S:Nat->Prop)(w:World)(mb:Nat)(K:MC)(s:MS):Prop:=∃F a,ZaQ F w mb K s a/\(∀i,F i->S i)/\(∀i,Mu mb a i->S i)
section
variable{F S T:Nat→Prop}{w w':World}{mb:Nat}{K:MC}{s:MS}{a:MA}
theorem ZaQ.lens(h:ZaQ F w mb K s a):s.P.length=K.NP/\s.M.length=K.NP/\s.G.length=K.NP/\a.rs.length=s.rcd.length:=by
 have h1:=h.prow.1;have h2:=h.mrow.1;have h3:=h.grow.1;rw[Zay] at h1 h2 h3;exact⟨by omega,by omega,by omega,h.fz.here.rsl⟩
theorem ZaQ.mu_lt(h:ZaQ F w mb K s a){i:Nat}(hi:Mu mb a i):i<w.heap.size:=by
 rcases hi with rfl|rfl|rfl|rfl|hi|hi
 ·exact h.blk.lt
 ·exact(h.prow.lt _ rfl).2
 ·exact(h.mrow.lt _ rfl).2
 ·exact(h.grow.lt _ rfl).2
 ·exact(h.rrow.lt _ ((Zaf _ _ _).trans hi)).2
 ·exact(h.orow.lt _ ((Zaf _ _ _).trans hi)).2
theorem ZaQ.step(h:ZaQ F w mb K s a)(hs:w.heap.size<=w'.heap.size)(hF:∀i,i<w.heap.size->F i->w'.heap[i]?=w.heap[i]?)(hM:∀i,Mu mb a i->w'.heap[i]?=w.heap[i]?):ZaQ F w' mb K s a:=
 ⟨(hM mb (.inl rfl)).trans h.blk,h.fz.step hs hF,Hg.own (S:=Mu mb a) h.prow (fun g hg=>.inr (.inl (by simpa [Value.ownBlock] using hg.symm))) w' hs (fun i _ hi=>hM i hi),Hg.own (S:=Mu mb a) h.mrow (fun g hg=>.inr (.inr (.inl (by simpa [Value.ownBlock] using hg.symm)))) w' hs (fun i _ hi=>hM i hi),
  Hg.own (S:=Mu mb a) h.grow (fun g hg=>.inr (.inr (.inr (.inl (by simpa [Value.ownBlock] using hg.symm))))) w' hs (fun i _ hi=>hM i hi),Hg.own (S:=Mu mb a) h.rrow (fun g hg=>.inr (.inr (.inr (.inr (.inl ((Zaf _ _ _).symm.trans hg)))))) w' hs (fun i _ hi=>hM i hi),
  Hg.own (S:=Mu mb a) h.orow (fun g hg=>.inr (.inr (.inr (.inr (.inr ((Zaf _ _ _).symm.trans hg)))))) w' hs (fun i _ hi=>hM i hi),h.npm,h.npg,h.nmg,h.nf,fun i hi=>YaK (h.fw i hi) hs,h.pin,h.min,h.rl,h.nl,h.il,h.cl,h.ol⟩
theorem ZaQ.below(h:ZaQ F w mb K s a)(hb:Below w.heap.size w w'):ZaQ F w' mb K s a:=h.step hb.size (fun i hi _=>hb.block i hi) (fun i hi=>hb.block i (h.mu_lt hi))
theorem Zaz.step(h:Zaz S w mb K s)(hs:w.heap.size<=w'.heap.size)(hb:∀i,i<w.heap.size->S i->w'.heap[i]?=w.heap[i]?):Zaz S w' mb K s:=by
 obtain⟨F,a,h,h1,h2⟩:=h;exact⟨F,a,h.step hs (fun i hi hF=>hb i hi (h1 i hF)) (fun i hi=>hb i (h.mu_lt hi) (h2 i hi)),h1,h2⟩
theorem Zaz.mono(h:Zaz S w mb K s)(hST:∀i,i<w.heap.size->S i->T i):Zaz T w mb K s:=by
 obtain⟨F,a,h,h1,h2⟩:=h;exact⟨F,a,h,fun i hi=>hST i (h.fw i hi) (h1 i hi),fun i hi=>hST i (h.mu_lt hi) (h2 i hi)⟩
theorem ZaQ.setG(h:ZaQ F w mb K s a){G':List Int}(hb:But (fun i=>i=a.gg) w w')(hG:w'.ownsRow 0 2 1 (.slice (some ⟨a.gg,0,none⟩) K.NP a.cG) K.NP (iv G')):ZaQ F w' mb K { s with G:=G' } a:=
 ⟨h.blk.but hb (fun e=>Zab h.grow h.blk (by decide) (by rw[e];rfl)),Hg.imp (h.fz.but hb (fun i _ hF e=>h.nf i (.inr (.inr (.inr (.inl e)))) hF)) (fun W hW=>⟨hW.shp,hW.exs,hW.esl,hW.exr,hW.smp,hW.pln,hW.bks,hW.its,hW.rsl,hW.rsr⟩),
  Zap h.prow hb (fun g e1 e2=>h.npg (by have:a.gp=g:=(by simpa [Value.ownBlock] using e1);rw[this,e2])),Zap h.mrow hb (fun g e1 e2=>h.nmg (by have:a.gm=g:=(by simpa [Value.ownBlock] using e1);rw[this,e2])),hG,
  Zap h.rrow hb (fun g e1 e2=>ZaA h.rrow h.grow (by decide) g e1 (by rw[e2];rfl)),Zap h.orow hb (fun g e1 e2=>ZaA h.orow h.grow (by decide) g e1 (by rw[e2];rfl)),
  h.npm,h.npg,h.nmg,h.nf,fun i hi=>YaK (h.fw i hi) hb.size,h.pin,h.min,h.rl,h.nl,h.il,h.cl,h.ol⟩
theorem ZaQ.setPM(h:ZaQ F w mb K s a){P' M':List Int}(hb:But (fun i=>i=a.gp\/i=a.gm) w w')(hP:w'.ownsRow 0 2 1 (.slice (some ⟨a.gp,0,none⟩) K.NP a.cP) K.NP (iv P'))(hM:w'.ownsRow 0 2 1 (.slice (some ⟨a.gm,0,none⟩) K.NP a.cM) K.NP (iv M'))(hPi:Zaw P')(hMi:Zaw M') :
  ZaQ F w' mb K { s with P:=P',M:=M' } a:=by
 have hT:∀i,i<w.heap.size->F i->¬(i=a.gp\/i=a.gm):=by
  rintro i _ hF (e|e)
  ·exact h.nf i (.inr (.inl e)) hF
  ·exact h.nf i (.inr (.inr (.inl e))) hF
 refine⟨h.blk.but hb ?_,Hg.imp (h.fz.but hb hT) (fun W hW=>⟨hW.shp,hW.exs,hW.esl,hW.exr,hW.smp,hW.pln,hW.bks,hW.its,hW.rsl,hW.rsr⟩),hP,hM,
  Zap h.grow hb ?_,Zap h.rrow hb ?_,Zap h.orow hb ?_,h.npm,h.npg,h.nmg,h.nf,fun i hi=>YaK (h.fw i hi) hb.size,hPi,hMi,h.rl,h.nl,h.il,h.cl,h.ol⟩
 ·rintro(e|e)
  ·exact Zab h.prow h.blk (by decide) (by rw[e];rfl)
  ·exact Zab h.mrow h.blk (by decide) (by rw[e];rfl)
 ·rintro g e (e1|e1)
  ·exact h.npg (by have:a.gg=g:=(by simpa [Value.ownBlock] using e);rw[this,e1])
  ·exact h.nmg (by have:a.gg=g:=(by simpa [Value.ownBlock] using e);rw[this,e1])
 ·rintro g e (e1|e1)
  ·exact ZaA h.rrow h.prow (by decide) g e (by rw[e1];rfl)
  ·exact ZaA h.rrow h.mrow (by decide) g e (by rw[e1];rfl)
 ·rintro g e (e1|e1)
  ·exact ZaA h.orow h.prow (by decide) g e (by rw[e1];rfl)
  ·exact ZaA h.orow h.mrow (by decide) g e (by rw[e1];rfl)
theorem ZaQ.setN(h:ZaQ F w mb K s a){nx cnt:Nat}(hg:w.grownBy w' (some mb))(hB:Blk w' mb 121 (ZcC K { s with nx:=nx,cnt:=cnt } a))(hn:nx<=s.its.length)(hc:cnt<=1000000000000):ZaQ F w' mb K { s with nx:=nx,cnt:=cnt } a:=by
 have hb:But (fun i=>i=mb) w w':=But.of_gr hg rfl;refine⟨hB,Hg.imp (h.fz.but hb (fun i _ hF e=>h.nf i (.inl e) hF)) (fun W hW=>⟨hW.shp,hW.exs,hW.esl,hW.exr,hW.smp,hW.pln,hW.bks,hW.its,hW.rsl,hW.rsr⟩),
  Zap h.prow hb ?_,Zap h.mrow hb ?_,Zap h.grow hb ?_,Zap h.rrow hb ?_,Zap h.orow hb ?_,h.npm,h.npg,h.nmg,h.nf,fun i hi=>YaK (h.fw i hi) hb.size,h.pin,h.min,h.rl,hn,h.il,hc,h.ol⟩
 ·exact fun g e e1=>Zab h.prow h.blk (by decide) (by rw[e,e1])
 ·exact fun g e e1=>Zab h.mrow h.blk (by decide) (by rw[e,e1])
 ·exact fun g e e1=>Zab h.grow h.blk (by decide) (by rw[e,e1])
 ·exact fun g e e1=>Zab h.rrow h.blk (by decide) (by rw[e,e1])
 ·exact fun g e e1=>Zab h.orow h.blk (by decide) (by rw[e,e1])
theorem ZaQ.setI(h:ZaQ F w mb K s a){its:List ZaH}{nx:Nat}{AI:Option Addr}{cI:Nat}(hg:w.grownBy w' (some mb))(hB:Blk w' mb 121 (ZcC K { s with its:=its,nx:=nx } { a with AI:=AI,cI:=cI }))(hn:nx<=its.length)(hi:its.length<=200000000)
  (hI:w.ownsRow 0 222 12 (.slice AI its.length cI) its.length (ZaJ its)) (hf:∀g,ZaX AI=some g->¬Mu mb a g):ZaQ (fun i=>F i\/ZaX AI=some i) w' mb K { s with its:=its,nx:=nx } { a with AI:=AI,cI:=cI }:=by
 have hb:But (fun i=>i=mb) w w':=But.of_gr hg rfl;have hF:Hg (fun i=>F i\/ZaX AI=some i) w (fun W=>Zwg W K { s with its:=its,nx:=nx } { a with AI:=AI,cI:=cI }):=by
  refine Hg.imp ((h.fz.mono (T:=fun i=>F i\/ZaX AI=some i) (fun i _ hi=>.inl hi)).and (Hg.own (S:=fun i=>F i\/ZaX AI=some i) hI (fun g hg=>.inr ((Zaf _ _ _).symm.trans hg)))) ?_;rintro W ⟨hW,hi⟩;exact⟨hW.shp,hW.exs,hW.esl,hW.exr,hW.smp,hW.pln,hW.bks,hi,hW.rsl,hW.rsr⟩
 refine⟨hB,hF.but hb ?_,Zap h.prow hb ?_,Zap h.mrow hb ?_,Zap h.grow hb ?_,Zap h.rrow hb ?_,Zap h.orow hb ?_,h.npm,h.npg,h.nmg,?_,?_,h.pin,h.min,h.rl,hn,hi,h.cl,h.ol⟩
 ·rintro i _ (hi|hi) e
  ·exact h.nf i (.inl e) hi
  ·exact hf i hi (.inl e)
 ·exact fun g e e1=>Zab h.prow h.blk (by decide) (by rw[e,e1])
 ·exact fun g e e1=>Zab h.mrow h.blk (by decide) (by rw[e,e1])
 ·exact fun g e e1=>Zab h.grow h.blk (by decide) (by rw[e,e1])
 ·exact fun g e e1=>Zab h.rrow h.blk (by decide) (by rw[e,e1])
 ·exact fun g e e1=>Zab h.orow h.blk (by decide) (by rw[e,e1])
 ·rintro i hi (hF|hF)
  ·exact h.nf i hi hF
  ·exact hf i hF hi
 ·rintro i (hi|hi)
  ·exact YaK (h.fw i hi) hg.size
  ·exact YaK (hI.lt i ((Zaf _ _ _).trans hi)).2 hg.size
end
abbrev ExS:=(Option Addr×Nat×Nat)×(Option Addr×Nat×Nat)
def exV(es:List ExS):List Value:=es.flatMap fun e=>[.slice e.1.1 e.1.2.1 e.1.2.2,.slice e.2.1 e.2.2.1 e.2.2.2]
theorem Zjr(e:ExS)(l:List ExS):exV (e::l)=.slice e.1.1 e.1.2.1 e.1.2.2::.slice e.2.1 e.2.2.1 e.2.2.2::exV l:=rfl
theorem Zq2(l:List ExS)(k:Nat)(s:ExS)(hk:l[k]?=some s):(exV l)[k*2]?=some (.slice s.1.1 s.1.2.1 s.1.2.2)/\(exV l)[k*2+1]?=some (.slice s.2.1 s.2.2.1 s.2.2.2):=by
 induction l generalizing k with
 |nil=>simp at hk
 |cons r l ih=>
  rw[Zjr]
  cases k with
  |zero=>
   obtain rfl:r=s:=by simpa using hk
   exact⟨rfl,rfl⟩
  |succ k=>
   have:=ih k (by simpa using hk);rw[show (k+1)*2=k*2+2 by omega]
   simpa using this
theorem Zq3{w:World}{S:Option Addr}{m k:Nat}{es:List ExS}{s:ExS}(h:Rd w 2 S m (exV es))(hs:es[k]?=some s)(hk:k<m):∃b o,S=some ⟨b,o,none⟩/\b<w.heap.size/\w.cell? ⟨b,o+k*2,none⟩=some (.slice s.1.1 s.1.2.1 s.1.2.2)/\w.cell? ⟨b,o+k*2+1,none⟩=some (.slice s.2.1 s.2.2.1 s.2.2.2):=by
 obtain⟨b,o,e,hlt,hc⟩:=h.2 (by omega);obtain⟨g1,g2⟩:=Zq2 es k s hs;exact⟨b,o,e,hlt,hc _ _ g1,by rw[Nat.add_assoc];exact hc _ _ g2⟩
def Ziv(i o:Int)(e:ExS):Bool:=decide ((e.1.2.1:Int)=i) && decide ((e.2.2.1:Int)=o)
def ZdA(es:List ExS)(i o:Int):Bool:=es.all (Ziv i o)
theorem ZgP{es:List ExS}{i o:Int}{k:Nat}{e:ExS}(hk:es[k]?=some e)(h:Ziv i o e=false):ZdA es i o=false:=by
 cases hq:ZdA es i o with
 |false=>rfl
 |true=>
  unfold ZdA at hq;rw[List.all_eq_true] at hq;rw[hq e (YaL hk)] at h
  cases h
theorem ZnI{es:List ExS}{i o:Int}{m:Nat}(hl:es.length=m)(h:∀k e,k<m->es[k]?=some e->Ziv i o e=true):ZdA es i o=true:=by
 unfold ZdA;rw[List.all_eq_true];intro x hx;obtain⟨k,hk,rfl⟩:=List.mem_iff_getElem.1 hx;exact h k _ (by omega) (YaA hk)
def Zwh(ok:Bool)(w:World)(e:Ending)(w':World):Prop:=∃v:Int,e=.returned (.tuple #[.int .i64 v,.bool ok])/\Bz0 w w'
section
variable(S:Option Addr)(m cS:Nat)(es:List ExS)(i o:Int)(w:World)
theorem ZoS(g1 g2:Nat)(e:ExS)(h1:Blk w g1 3 #[.int .i64 i])(h2:Blk w g2 3 #[.int .i64 o]) :
  Calls prog 155 #[.agg #[.slice e.1.1 e.1.2.1 e.1.2.2,.slice e.2.1 e.2.2.1 e.2.2.2],.pointer (some ⟨g1,0,none⟩),.pointer (some ⟨g2,0,none⟩)] w fun en w'=>en=.returned (.bool (!Ziv i o e))/\Bz0 w w':=by
 obtain⟨⟨a,n,c⟩,⟨a',n',c'⟩⟩:=e;have q1:=h1.cell 0;have q2:=h2.cell 0;have l1:=h1.lt;have l2:=h2.lt;clear h1 h2;have HK:Hid (Below w.heap.size w (w.alloc (.cells #[.slice a n c,.slice a' n' c'] 162))):=hid (bA0 _)
 by_cases e1:(n:Int)=i
 ·by_cases e2:(n':Int)=o
  ·have f1:((n:Int) !=i)=false:=by simp[e1]
   have f2:((n':Int) !=o)=false:=by simp[e2]
   have HQ:Hid ((!Ziv i o ((a,n,c),(a',n',c')))=false):=hid (by simp[Ziv,e1,e2]);clear e1 e2
   go_enter func155,ntmps155
   go_wp2;go_ret;exact⟨Zao HQ.out.symm,HK.out⟩
  ·have f1:((n:Int) !=i)=false:=by simp[e1]
   have f2:((n':Int) !=o)=true:=by simp[e2]
   have HQ:Hid ((!Ziv i o ((a,n,c),(a',n',c')))=true):=hid (by simp[Ziv,e1,e2]);clear e1 e2
   go_enter func155,ntmps155
   go_wp2;go_ret;exact⟨Zao HQ.out.symm,HK.out⟩
 ·have f1:((n:Int) !=i)=true:=by simp[e1]
  have HQ:Hid ((!Ziv i o ((a,n,c),(a',n',c')))=true):=hid (by simp[Ziv,e1]);clear e1
  go_enter func155,ntmps155
  go_wp2;go_ret;exact⟨Zao HQ.out.symm,HK.out⟩
theorem ZmB(g1 g2:Nat)(hl:es.length=m)(h:Rd w 2 S m (exV es))(hm:m<=1000000)(h1:Blk w g1 3 #[.int .i64 i])(h2:Blk w g2 3 #[.int .i64 o]) :
  Calls prog 154 #[.slice S m cS,.func (.func 155) #[] #[.pointer (some ⟨g1,0,none⟩),.pointer (some ⟨g2,0,none⟩)]] w fun e w'=>∃v:Int,e=.returned (.int .i64 v)/\decide (v<0)=ZdA es i o/\-1<=v/\v<=1000000/\Bz0 w w':=by
 have HL:=hid hl;have HR:=hid h;have HC:=hid (fun W (hB:Below w.heap.size w W) e=>ZoS i o W g1 g2 e (h1.kept hB) (h2.kept hB));clear hl h h1 h2
 go_enter func154,ntmps154
 go_wp2_with fail
 go_loopw [8] (fun c wr=>∃k:Nat,k<=m/\c=.int .i64 k/\Hid (∀j e,j<k->es[j]?=some e->Ziv i o e=true)/\Bz0 w wr) (fun c _=>m-(intOf c).toNat)
 case atStart=>exact⟨0,by omega,rfl,hid (fun j x h=>by omega),bR0 _ _⟩
 case round=>
  obtain⟨k,hk,rfl,he,hb⟩:=hrel
  by_cases hlt:k<m
  ·obtain⟨⟨⟨a,n,c⟩,⟨a',n',c'⟩⟩,hs⟩:∃s,es[k]?=some s:=⟨_,YaA (by rw[HL.out];exact hlt)⟩;obtain⟨b,o',rfl,lb,c0,c1⟩:=Zq3 (HR.out.below hb) hs hlt;have C:=HC.out wr hb ((a,n,c),(a',n',c'));obtain⟨q,hq⟩:∃q,Ziv i o ((a,n,c),(a',n',c'))=q:=⟨_,rfl⟩;rw[hq] at C;have HQ:=hid hq;have HS:=hid hs;have HCC:=hid C;have HB:=hid hb;dsimp only at c0 c1;clear hq hs C hb
   cases q
   ·go_wp2_with fail;((with_reducible refine HCC.out.mono ?_);rintro e w1 ⟨rfl,hb1⟩);have HB1:=hid (bT0 HB.out hb1);clear hb1;go_wp2_with fail;go_ret;exact⟨k,rfl,by rw[ZgP HS.out HQ.out];simp,by omega,by omega,HB1.out⟩
   ·go_wp2_with fail;((with_reducible refine HCC.out.mono ?_);rintro e w1 ⟨rfl,hb1⟩);have HB1:=hid (bT0 HB.out hb1);clear hb1;go_wp2_with fail
    go_roundw
    case rel=>
     refine⟨k+1,by omega,by go_num,hid (fun j y hj hy=>?_),HB1.out⟩
     by_cases hjk:j<k
     ·exact he.out j y hjk hy
     ·obtain rfl:j=k:=by omega
      rw[HS.out] at hy;injection hy with hy
      rw[<-hy];exact HQ.out
    case measure=>simp[intOf];omega
  ·obtain rfl:k=m:=by omega
   have HB:=hid hb;clear hb;go_wp2;go_ret;exact⟨-1,rfl,by rw[ZnI HL.out he.out];rfl,by omega,by omega,HB.out⟩
theorem Zjs(hl:es.length=m)(h:Rd w 2 S m (exV es))(hm:m<=1000000) :
  Calls prog 67 #[.slice S m cS,.int .i64 i,.int .i64 o] w (Zwh (ZdA es i o) w):=by
 obtain⟨w0,hw0⟩:∃w0,(w.alloc (.cells #[.int .i64 i] 3)).alloc (.cells #[.int .i64 o] 3)=w0:=⟨_,rfl⟩;have HW:=hid hw0;have hk0:Below w.heap.size w w0:=by rw[<-hw0];exact(bA0 _).alloc (by simp) _
 have hb0:Blk w0 w.heap.size 3 #[.int .i64 i]:=by rw[<-hw0];exact(Blk.new w _ _).alloc _
 have hb1:Blk w0 (w.heap.size+1) 3 #[.int .i64 o]:=by rw[<-hw0];exact Blk.new' _ _ (by simp)
 have HC:=hid (ZmB S m cS es i o w0 w.heap.size (w.heap.size+1) hl (h.below hk0) hm hb0 hb1);have HK:=hid hk0;clear hl h hk0 hb0 hb1 hw0
 go_enter func67,ntmps67
 go_wp2_with fail;rw[HW.out];((with_reducible refine HC.out.mono ?_);rintro e w1 ⟨v,rfl,hv,v1,v2,hb⟩);have HV:=hid hv;have HB:=hid (bT0 HK.out hb);clear hv hb
 by_cases hv0:v<0
 ·have e1:decide (v<0)=true:=YaJ hv0;have HT:Hid (ZdA es i o=true):=hid (by rw[<-HV.out,e1]);clear hv0;go_wp2_with fail
  all_goals go_ret2
  all_goals exact⟨_,by rw[HT.out];rfl,HB.out⟩
 ·have e1:decide (v<0)=false:=YaI hv0;have HT:Hid (ZdA es i o=false):=hid (by rw[<-HV.out,e1]);clear hv0;go_wp2_with fail
  all_goals go_ret2
  all_goals exact⟨_,by rw[HT.out];rfl,HB.out⟩
end
abbrev ZgQ(A:Option Addr)(n cap:Nat)(c:Cfg)(P:Int):Array Value:=#[.slice A n cap,.int .i64 c.sh,.int .i64 c.ra,.int .i64 c.mo,.int .i64 c.wk,.int .i64 c.ba,.int .i64 c.mi,.int .i64 c.st,.int .i64 c.bu,.int .i64 c.ch,.int .i64 c.wi,.int .i64 c.ca,.int .i64 P]
abbrev ZnJ(A:Option Addr)(n cap:Nat)(c:Cfg)(P:Int):Value:=.agg (ZgQ A n cap c P)
def Zeb(l:List Int)(c:Cfg)(P:Int):Bool:=ZaO l c && (decide (1<=P) && decide (P<=1048576))
def Zjt(n:Nat)(l:List Int)(c:Cfg)(P:Int):Bool:=if 40<n then false else if Zeb l c P then decide (P<=60) && (decide (c.wk<=8) && (decide (c.mi<=20) && decide (c.st<=12))) else true
section
variable(A:Option Addr)(n cap:Nat)(l:List Int)(c:Cfg)(P:Int)(w:World)
theorem Zc2(hl:l.length=n)(h:Rd w 1 A n (iv l))(hn:n<=1000) :
  Calls prog 34 #[Zsf A n cap c] w (Zek (ZaO l c) w):=by
 have HG:Hid (∀W,w.alloc (.cells (ZfL A n cap c) 24)=W->Below w.heap.size w W/\Blk W w.heap.size 24 (ZfL A n cap c)):=hid (by
  rintro W rfl;exact⟨bA0 _,Blk.new _ _ _⟩)
 have HS:=hid (fun W (r:Rd W 1 A n (iv l))=>Zhu A n cap l W hl r hn);have HR:=hid h;have HZ:=hid Zen;obtain⟨sh,ra,mo,wk,ba,mi,st,bu,ch,wi,ca⟩:=c;obtain⟨ok,hok⟩:∃ok,ZaO l ⟨sh,ra,mo,wk,ba,mi,st,bu,ch,wi,ca⟩=ok:=⟨_,rfl⟩;have HOK:Hid ((btB wk 1 64 && (btB sh 1 62 && (ZaI l && (btB mi 1 1048576 && (btB bu 1 1048576 && (btB ch 1 1048576 && (btB wi 1 1048576 && (btB ca 1 1048576 && (btB st 0 1048576 && btB ba wk 1048576)))))))))=ok):=hid hok;rw[hok];clear hl h hok
 go_enter func34,ntmps34
 go_wp2_with fail;obtain⟨w0,hw0⟩:∃w0,w.alloc (.cells (ZfL A n cap ⟨sh,ra,mo,wk,ba,mi,st,bu,ch,wi,ca⟩) 24)=w0:=⟨_,rfl⟩;obtain⟨hB,hK⟩:=HG.out _ hw0;rw[hw0];clear hw0 HG;obtain⟨bc,hbc⟩:∃bc,w.heap.size=bc:=⟨_,rfl⟩;rw[hbc] at hK ⊢;have HBC:=hid hbc;clear hbc;have HB:=hid hB;have HK:=hid hK;have c0:=cv0 hK;have c1:w0.cell? ⟨bc,1,none⟩=some (.int .i64 sh):=hK.cell 1;have c4:w0.cell? ⟨bc,4,none⟩=some (.int .i64 wk):=hK.cell 4;have lc:=hK.lt;clear hB hK;have HD:Hid (∀(code:Int) (W:World),code≠0->ok=false->Below w.heap.size w W->Zek ok w (.returned (.int .i64 code)) W):=hid (fun code W h1 h2 h3=>⟨code,rfl,by rw[h2];simp[h1],h3⟩);((with_reducible refine(HZ.out wk 1 64 w0).mono ?_);rintro e w2 ⟨rfl,rfl⟩);obtain⟨q1,hq1⟩:∃q,btB wk 1 64=q:=⟨_,rfl⟩;rw[hq1];rw[hq1] at HOK;clear hq1
 cases q1
 ·go_wp2_with fail;go_ret;exact HD.out 6 _ (by omega) (by rw[<-HOK.out];rfl) HB.out
 ·go_wp2_with fail;((with_reducible refine(HZ.out sh 1 62 w0).mono ?_);rintro e w2 ⟨rfl,rfl⟩);obtain⟨q2,hq2⟩:∃q,btB sh 1 62=q:=⟨_,rfl⟩;rw[hq2];rw[hq2] at HOK;clear hq2
  cases q2
  ·go_wp2_with fail;go_ret;exact HD.out 9 _ (by omega) (by rw[<-HOK.out];rfl) HB.out
  ·go_wp2_with fail;((with_reducible refine(HS.out _ (HR.out.below (by rw[HBC.out];exact HBC.out▸HB.out))).mono ?_);rintro e w1 ⟨cd,rfl,hcd,hb1⟩);have HCD:=hid hcd;have k1:=HK.out.kept hb1;have HK1:=hid k1;have HB1:=hid (bT0 HB.out hb1);clear hcd hb1 c0 c1 c4 lc HK HB
   by_cases h0:cd=0
   ·subst h0;have hsz:=HCD.out.1 rfl;rw[hsz] at HOK;have c4:w1.cell? ⟨bc,4,none⟩=some (.int .i64 wk):=k1.cell 4;have c5:w1.cell? ⟨bc,5,none⟩=some (.int .i64 ba):=k1.cell 5;have c6:w1.cell? ⟨bc,6,none⟩=some (.int .i64 mi):=k1.cell 6;have c7:w1.cell? ⟨bc,7,none⟩=some (.int .i64 st):=k1.cell 7;have c8:w1.cell? ⟨bc,8,none⟩=some (.int .i64 bu):=k1.cell 8;have c9:w1.cell? ⟨bc,9,none⟩=some (.int .i64 ch):=k1.cell 9;have c10:w1.cell? ⟨bc,10,none⟩=some (.int .i64 wi):=k1.cell 10;have c11:w1.cell? ⟨bc,11,none⟩=some (.int .i64 ca):=k1.cell 11;have lc:=k1.lt;obtain⟨s1,hs1⟩:∃s1,IntKind.i64.wrap (st+1)=s1:=⟨_,rfl⟩;have HNB:Hid (∀W,w1.alloc (.cells #[.int .i64 mi,.int .i64 bu,.int .i64 ch,.int .i64 wi,.int .i64 ca,.int .i64 s1] 3)=W->Below w1.heap.size w1 W/\Blk W w1.heap.size 3 #[.int .i64 mi,.int .i64 bu,.int .i64 ch,.int .i64 wi,.int .i64 ca,.int .i64 s1]):=hid (by
     rintro W rfl;exact⟨bA0 _,Blk.new _ _ _⟩)
    clear k1 hsz
    by_cases hs0:st<0
    ·have e1:decide (st<0)=true:=YaJ hs0;go_wp2_with fail;go_ret;exact HD.out 2 _ (by omega) (by rw[<-HOK.out];simp[btB];intros;omega) (HB1.out.alloc HB1.out.size _)
    ·have e1:decide (st<0)=false:=YaI hs0
     by_cases hs2:1048576<st
     ·have e2:decide (1048576<st)=true:=YaJ hs2;go_wp2_with fail;go_ret;exact HD.out 2 _ (by omega) (by rw[<-HOK.out];simp[btB];intros;omega) (HB1.out.alloc HB1.out.size _)
     ·have e2:decide (1048576<st)=false:=YaI hs2;have hst:btB st 0 1048576=true:=by simp[btB];omega
      rw[hst] at HOK;clear hst;go_wp2_with fail;obtain⟨w3,hw3⟩:∃w3,w1.alloc (.cells #[.int .i64 mi,.int .i64 bu,.int .i64 ch,.int .i64 wi,.int .i64 ca,.int .i64 s1] 3)=w3:=⟨_,rfl⟩;obtain⟨hb3,hl3⟩:=HNB.out _ hw3;rw[hw3];have HB3:=hid (bT0 HB1.out hb3);have HK3:=hid (HK1.out.kept hb3);obtain⟨lb,hlb⟩:∃lb,w1.heap.size=lb:=⟨_,rfl⟩;rw[hlb] at hl3 ⊢;have HL3:=hid hl3;clear hlb hw3 hb3 hl3 HNB hs1 c4 c5 c6 c7 c8 c9 c10 c11 lc e1 e2 HB1 HK1;have HE:Hid (∀k:Nat,k<5->∃y,w3.cell? ⟨lb,k,none⟩=some (.int .i64 y)/\[mi,bu,ch,wi,ca][k]?=some y):=hid (fun k hk=>by
       match k,hk with
       |0,_=>exact⟨mi,HL3.out.cell 0,rfl⟩
       |1,_=>exact⟨bu,HL3.out.cell 1,rfl⟩
       |2,_=>exact⟨ch,HL3.out.cell 2,rfl⟩
       |3,_=>exact⟨wi,HL3.out.cell 3,rfl⟩
       |4,_=>exact⟨ca,HL3.out.cell 4,rfl⟩)
      have HF:Hid (∀(k:Nat) (y:Int),[mi,bu,ch,wi,ca][k]?=some y->btB y 1 1048576=false->ok=false):=hid (fun k y hy hf=>by
       have:=HOK.out
       match k,hy with
       |0,hy=>injection hy with hy;subst hy;rw[<-this,hf];simp
       |1,hy=>injection hy with hy;subst hy;rw[<-this,hf];simp
       |2,hy=>injection hy with hy;subst hy;rw[<-this,hf];simp
       |3,hy=>injection hy with hy;subst hy;rw[<-this,hf];simp
       |4,hy=>injection hy with hy;subst hy;rw[<-this,hf];simp)
      have HT:Hid ((∀(j:Nat) (y:Int),j<5->[mi,bu,ch,wi,ca][j]?=some y->btB y 1 1048576=true)->btB ba wk 1048576=ok):=hid (fun hall=>by
       have h0:=hall 0 mi (by omega) rfl;have h1:=hall 1 bu (by omega) rfl;have h2:=hall 2 ch (by omega) rfl;have h3:=hall 3 wi (by omega) rfl;have h4:=hall 4 ca (by omega) rfl;rw[<-HOK.out,h0,h1,h2,h3,h4];simp)
      have llb:=HL3.out.lt
      go_loopw [5] (fun i wr=>∃k:Nat,k<=5/\i=.int .i64 k/\wr=w3/\Hid (∀(j:Nat) (y:Int),j<k->[mi,bu,ch,wi,ca][j]?=some y->btB y 1 1048576=true)) (fun i _=>5-(intOf i).toNat)
      case atStart=>exact⟨0,by omega,rfl,rfl,hid (fun j y h=>by omega)⟩
      case round=>
       obtain⟨k,hk,rfl,hwr,he⟩:=hrel;subst hwr
       by_cases hlt:k<5
       ·obtain⟨y,hy1,hy2⟩:=HE.out k hlt;have HY:=hid hy2;have i1:(k:Int)<5:=by omega
        have i2:(0:Int)<=(k:Int):=by omega
        have i3:(k:Int)<6:=by omega
        clear hy2;go_wp2_with fail;((with_reducible refine(HZ.out y 1 1048576 _).mono ?_);rintro e w2 ⟨rfl,rfl⟩);obtain⟨q3,hq3⟩:∃q,btB y 1 1048576=q:=⟨_,rfl⟩;rw[hq3];have HQ3:=hid hq3;clear hq3
        cases q3
        ·go_wp2_with fail;go_ret;exact HD.out 2 _ (by omega) (HF.out k y HY.out HQ3.out) HB3.out
        ·go_wp2_with fail
         go_roundw
         case rel=>
          refine⟨k+1,by omega,by go_num,trivial,hid (fun j z hj hz=>?_)⟩
          by_cases hjk:j<k
          ·exact he.out j z hjk hz
          ·obtain rfl:j=k:=by omega
           rw[HY.out] at hz;injection hz with hz
           subst hz;exact HQ3.out
         case measure=>simp[intOf];omega
       ·obtain rfl:k=5:=by omega
        have c4:wr.cell? ⟨bc,4,none⟩=some (.int .i64 wk):=HK3.out.cell 4;have c5:wr.cell? ⟨bc,5,none⟩=some (.int .i64 ba):=HK3.out.cell 5;have lc:=HK3.out.lt;have HOB:=hid (HT.out he.out);clear he;go_wp2_with fail;((with_reducible refine(HZ.out ba wk 1048576 _).mono ?_);rintro e w2 ⟨rfl,rfl⟩);obtain⟨q3,hq3⟩:∃q,btB ba wk 1048576=q:=⟨_,rfl⟩;rw[hq3];rw[hq3] at HOB;clear hq3
        cases q3
        ·go_wp2_with fail;go_ret;exact HD.out 7 _ (by omega) HOB.out.symm HB3.out
        ·go_wp2_with fail;go_ret;exact⟨0,rfl,by rw[<-HOB.out];simp,HB3.out⟩
   ·have hsz:ZaI l=false:=by
     cases hq:ZaI l with
     |false=>rfl
     |true=>exact absurd (HCD.out.2 hq) h0
    rw[hsz] at HOK;have e5:(cd !=0)=true:=by simp[h0]
    clear hsz;go_wp2_with fail;go_ret;exact HD.out cd _ h0 (by rw[<-HOK.out];simp) HB1.out
theorem ZdB(hl:l.length=n)(h:Rd w 1 A n (iv l))(hn:n<=1000) :
  Calls prog 179 #[ZnJ A n cap c P] w fun e w'=>e=.returned (.bool (Zeb l c P))/\Bz0 w w':=by
 have HG:Hid (∀W,w.alloc (.cells (ZgQ A n cap c P) 172)=W->Below w.heap.size w W/\Blk W w.heap.size 172 (ZgQ A n cap c P)):=hid (by
  rintro W rfl;exact⟨bA0 _,Blk.new _ _ _⟩)
 have HC:=hid (fun W (r:Rd W 1 A n (iv l))=>Zc2 A n cap l c W hl r hn);have HR:=hid h;obtain⟨q,hq⟩:∃q,Zeb l c P=q:=⟨_,rfl⟩;have HQ:=hid hq;rw[hq];clear hl h hq
 go_enter func179,ntmps179
 go_wp2_with fail;obtain⟨w0,hw0⟩:∃w0,w.alloc (.cells (ZgQ A n cap c P) 172)=w0:=⟨_,rfl⟩;obtain⟨hB,hK⟩:=HG.out _ hw0;rw[hw0];clear hw0 HG;have HB:=hid hB;have HK:=hid hK;((with_reducible refine(HC.out _ (HR.out.below hB)).mono ?_);rintro e w1 ⟨cd,rfl,hcd,hb1⟩);have k1:=HK.out.kept hb1;have HB1:=hid (bT0 HB.out hb1);have HCD:=hid hcd;have c12:w1.cell? ⟨w.heap.size,12,none⟩=some (.int .i64 P):=k1.cell 12;have lc:=k1.lt;clear hB hK hcd hb1 k1 HB HK
 by_cases h0:cd=0
 ·subst h0;have HO:=hid (HCD.out.1 rfl)
  by_cases h1:1<=P
  ·have e1:decide (1<=P)=true:=YaJ h1
   by_cases h2:P<=1048576
   ·have e2:decide (P<=1048576)=true:=YaJ h2;go_wp2_with fail;go_ret;exact⟨Zao (by rw[<-HQ.out];simp only[Zeb,HO.out,e1,e2,Bool.and_true,Bool.true_and]),HB1.out⟩
   ·have e2:decide (P<=1048576)=false:=YaI h2;go_wp2_with fail;go_ret;exact⟨Zao (by rw[<-HQ.out];simp only[Zeb,e2,Bool.and_false]),HB1.out⟩
  ·have e1:decide (1<=P)=false:=YaI h1;go_wp2_with fail;go_ret;exact⟨Zao (by rw[<-HQ.out];simp only[Zeb,e1,Bool.false_and,Bool.and_false]),HB1.out⟩
 ·have hno:ZaO l c=false:=by
   cases hh:ZaO l c with
   |false=>rfl
   |true=>exact absurd (HCD.out.2 hh) h0
  have HO:=hid hno;have e5:(cd==0)=false:=by simp[h0]
  clear hno;go_wp2_with fail;go_ret;exact⟨Zao (by rw[<-HQ.out];simp only[Zeb,HO.out,Bool.false_and]),HB1.out⟩
theorem ZoT(hl:l.length=n)(h:Rd w 1 A n (iv l)) :
  Calls prog 96 #[ZnJ A n cap c P] w fun e w'=>e=.returned (.bool (Zjt n l c P))/\Bz0 w w':=by
 have HG:Hid (∀W,w.alloc (.cells (ZgQ A n cap c P) 172)=W->Below w.heap.size w W/\Blk W w.heap.size 172 (ZgQ A n cap c P)):=hid (by
  rintro W rfl;exact⟨bA0 _,Blk.new _ _ _⟩)
 have HR:=hid h;have HL:=hid hl;obtain⟨q,hq⟩:∃q,Zjt n l c P=q:=⟨_,rfl⟩;have HQ:=hid hq;rw[hq]
 by_cases h40:40<n
 ·have e1:decide ((40:Int)<(n:Int))=true:=YaJ (by omega);have e2:decide ((n:Int)<=40)=false:=YaI (by omega);clear hl h hq
  go_enter func96,ntmps96
  go_wp2_with fail;go_ret;exact⟨Zao (by rw[<-HQ.out,Zjt,if_pos h40]),bA0 _⟩
 ·have e1:decide ((40:Int)<(n:Int))=false:=YaI (by omega);have e2:decide ((n:Int)<=40)=true:=YaJ (by omega);have HRi:=hid (fun W (r:Rd W 1 A n (iv l))=>ZdB A n cap l c P W hl r (by omega));clear hl h hq
  go_enter func96,ntmps96
  go_wp2_with fail;obtain⟨w0,hw0⟩:∃w0,w.alloc (.cells (ZgQ A n cap c P) 172)=w0:=⟨_,rfl⟩;obtain⟨hB,hK⟩:=HG.out _ hw0;rw[hw0];clear hw0 HG;have HB:=hid hB;have HK:=hid hK;((with_reducible refine(HRi.out _ (HR.out.below hB)).mono ?_);rintro e w1 ⟨rfl,hb1⟩);have k1:=HK.out.kept hb1;have HB1:=hid (bT0 HB.out hb1);have c0:=cv0 k1;have c4:=cv4 k1;have c6:=cv6 k1;have c7:=cv7 k1;have c12:w1.cell? ⟨w.heap.size,12,none⟩=some (.int .i64 P):=k1.cell 12;have lc:=k1.lt;clear hB hK hb1 k1 HB HK;obtain⟨rq,hrq⟩:∃rq,Zeb l c P=rq:=⟨_,rfl⟩;rw[hrq];have HRQ:=hid hrq;clear hrq
  cases rq
  ·go_wp2_with fail;go_ret;exact⟨Zao (by rw[<-HQ.out,Zjt,if_neg h40,HRQ.out];rfl),HB1.out⟩
  ·have HF:Hid (Zjt n l c P=(decide (P<=60) && (decide (c.wk<=8) && (decide (c.mi<=20) && decide (c.st<=12))))):=hid (by rw[Zjt,if_neg h40,HRQ.out];rfl)
   by_cases f1:P<=60
   ·have g1:decide (P<=60)=true:=YaJ f1
    by_cases f2:c.wk<=8
    ·have g2:decide (c.wk<=8)=true:=YaJ f2
     by_cases f3:c.mi<=20
     ·have g3:decide (c.mi<=20)=true:=YaJ f3
      by_cases f4:c.st<=12
      ·have g4:decide (c.st<=12)=true:=YaJ f4;go_wp2_with fail;go_ret;exact⟨Zao (by rw[<-HQ.out,HF.out,g1,g2,g3,g4];rfl),HB1.out⟩
      ·have g4:decide (c.st<=12)=false:=YaI f4;go_wp2_with fail;go_ret;exact⟨Zao (by rw[<-HQ.out,HF.out,g4,Bool.and_false,Bool.and_false,Bool.and_false]),HB1.out⟩
     ·have g3:decide (c.mi<=20)=false:=YaI f3;go_wp2_with fail;go_ret;exact⟨Zao (by rw[<-HQ.out,HF.out,g3,Bool.false_and,Bool.and_false,Bool.and_false]),HB1.out⟩
    ·have g2:decide (c.wk<=8)=false:=YaI f2;go_wp2_with fail;go_ret;exact⟨Zao (by rw[<-HQ.out,HF.out,g2,Bool.false_and,Bool.and_false]),HB1.out⟩
   ·have g1:decide (P<=60)=false:=YaI f1;go_wp2_with fail;go_ret;exact⟨Zao (by rw[<-HQ.out,HF.out,g1,Bool.false_and]),HB1.out⟩
end
theorem Ze0{w:World}{base:Nat}{e:TypeId}{g n cap:Nat}{l:List Int}(h:w.ownsRow base e 1 (.slice (some ⟨g,0,none⟩) n cap) n (iv l))(j:Nat)(y:Int) :
  (w.setCell ⟨g,j,none⟩ (.int .i64 y)).ownsRow base e 1 (.slice (some ⟨g,0,none⟩) n cap) n (iv (l.set j y))/\w.grownBy (w.setCell ⟨g,j,none⟩ (.int .i64 y)) (some g):=by
 have h:=h.stored j (.int .i64 y);rw[Zcs] at h;exact h
theorem ZmC{w:World}{base:Nat}{e:TypeId}{g n cap k:Nat}{l:List Int}{x:Int}(h:w.ownsRow base e 1 (.slice (some ⟨g,0,none⟩) n cap) n (iv l))(hk:k<n)(hx:l[k]?=some x):w.cell? ⟨g,k,none⟩=some (.int .i64 x):=
 (h.cellAt k (by omega)).trans (by rw[iv,YaR,hx];rfl)
theorem Zju(n:Nat)(w:World)(hn:n<=1000000):Calls prog 100 #[.int .i64 n] w fun e w'=>e=.returned (.int .i64 ((n-1:Nat):Int))/\w=w':=by
 by_cases h:n<1
 ·have e1:decide ((n:Int)<1)=true:=YaJ (by omega)
  go_enter func100,ntmps100
  go_wp2;go_ret;exact⟨ZaG (by omega),rfl⟩
 ·have e1:decide ((n:Int)<1)=false:=YaI (by omega)
  go_enter func100,ntmps100
  go_wp2;go_ret;exact⟨ZaG (by omega),rfl⟩
theorem Zq4{st q k:Nat}(hq:1<=q)(h1:st<=k*q)(h2:∀j,j<k->j*q<st):cnt st q=k:=by
 by_cases hs:st=0
 ·subst hs;have:k=0:=by
   rcases Nat.eq_zero_or_pos k with h|h
   ·exact h
   ·have:=h2 0 h;omega
  subst this;simp[cnt]
 ·have hs1:1<=st:=by omega
  have a1:¬k<cnt st q:=fun h=>by have:=(ZfD st q k hs1 hq).1 h;omega
  have a2:∀j,j<k->j<cnt st q:=fun j hj=>(ZfD st q j hs1 hq).2 (h2 j hj)
  rcases Nat.eq_zero_or_pos k with h|h
  ·omega
  ·have:=a2 (k-1) (by omega);omega
theorem ZoU(n b st q:Nat)(w:World)(hn:n<=1000)(hb:1<=b)(hbn:b<=n)(hst:st<=1000)(hq:n/b=q) :
  Calls prog 176 #[.int .i64 n,.int .i64 b,.int .i64 st] w fun e w'=>e=.returned (.int .i64 (cnt st q))/\w=w':=by
 have hq1:1<=q:=by rw[<-hq];exact(Nat.one_le_div_iff (by omega)).2 hbn
 have hqn:q<=n:=by rw[<-hq];exact Nat.div_le_self n b
 have hw:IntKind.i64.wrap ((n:Int)/(b:Int))=(q:Int):=by
  rw[<-Int.natCast_ediv,hq,IntKind.wrap_i64];omega
 clear hq
 go_enter func176,ntmps176
 go_wp2_with fail
 go_loopw [7,8] (fun e t wr=>∃k p:Nat,e=.int .i64 k/\t=.int .i64 p/\wr=w/\Hid (p=k*q)/\k<=p/\Hid (∀j,j<k->j*q<st)) (fun _ t _=>st-(intOf t).toNat)
 case atStart=>exact⟨0,0,rfl,rfl,rfl,hid (by simp),by omega,hid (fun j h=>by omega)⟩
 case round=>
  obtain⟨k,p,rfl,rfl,hwr,hp,hkp,hlow⟩:=hrel;subst hwr
  by_cases hlt:p<st
  ·have e1:decide ((p:Int)<(st:Int))=true:=YaJ (by omega);go_wp2_with fail
   go_roundw
   case rel=>exact⟨k+1,p+q,by go_num,by go_num,trivial,hid (by rw[Nat.succ_mul,hp.out]),by omega,hid (fun j hj=>by
    by_cases e:j=k
    ·subst e;rw[<-hp.out];exact hlt
    ·exact hlow.out j (by omega))⟩
   case measure=>simp[intOf];omega
  ·have e1:decide ((p:Int)<(st:Int))=false:=YaI (by omega);go_wp2_with fail;go_ret;exact⟨ZaG (by rw[Zq4 hq1 (by rw[<-hp.out];omega) hlow.out]),rfl⟩
def Zxd(w:World)(A:Option Addr)(N cap k n:Nat)(l:List Int)(e:Ending)(w':World):Prop:=
 ∃A' c',e=.returned (.tuple #[.agg #[.slice A N cap,.int .i64 (k:Int)],.slice A' n c',.bool true])/\w'.ownsRow w.heap.size 3 1 (.slice A' n c') n (iv l)/\Bz0 w w'
theorem Zq5{l:List Int}{i j:Nat}{y:Int}(h:l[i]?=some y):(l.set j y)[i]?=some y:=by
 have:=(YaG.1 h).1;rw[List.getElem?_set]
 by_cases e:j=i
 ·subst e;rw[if_pos rfl,if_pos this]
 ·rw[if_neg e];exact h
theorem ZoV(N cap n s:Nat)(A:Option Addr)(L:List Int)(w:World)(hl:L.length=N)(h:Rd w 1 A N (uv L))(hu:InU L)(hn:n<=1000)(hN:s+(n-1)<=N)(hN2:N<=10000000) :
  Calls prog 177 #[.int .i64 n,.agg #[.slice A N cap,.int .i64 s]] w (Zxd w A N cap (s+(n-1)) n (ZkO L n s)):=by
 have e1:decide ((n:Int)<0)=false:=YaI (by omega);have e2:decide ((1048576:Int)<(n:Int))=false:=YaI (by omega);have e3:decide ((N:Int)-(s:Int)<((n-1:Nat):Int))=false:=YaI (by omega);have HND:=hid (fun W=>Zju n W (by omega));have HR:=hid h;have HL:=hid hl;have HU:=hid hu;clear h hl hu
 go_enter func177,ntmps177
 go_wp2_with fail;obtain⟨g1,hg1⟩:∃g,w.heap.size=g:=⟨_,rfl⟩;have HX:Hid (Below w.heap.size w ((w.alloc (.cells #[.slice A N cap,.int .i64 s] 316)).alloc (.cells #[.slice none 0 0,.int .i64 0] 316))/\Blk ((w.alloc (.cells #[.slice A N cap,.int .i64 s] 316)).alloc (.cells #[.slice none 0 0,.int .i64 0] 316)) g1 316 #[.slice A N cap,.int .i64 s]/\Blk ((w.alloc (.cells #[.slice A N cap,.int .i64 s] 316)).alloc (.cells #[.slice none 0 0,.int .i64 0] 316)) (g1+1) 316 #[.slice none 0 0,.int .i64 0]):=hid ⟨(bA0 _).alloc (by simp) _,(Blk.new' _ _ hg1).alloc _,Blk.new' _ _ (by simp[hg1])⟩;have HG:=hid hg1;rw[hg1];obtain⟨w2,hw2⟩:∃w2,(w.alloc (.cells #[.slice A N cap,.int .i64 s] 316)).alloc (.cells #[.slice none 0 0,.int .i64 0] 316)=w2:=⟨_,rfl⟩;rw[hw2] at HX ⊢;clear hw2;have c0:w2.cell? ⟨g1,0,none⟩=some (.slice A N cap):=HX.out.2.1.cell 0;have c1:w2.cell? ⟨g1,1,none⟩=some (.int .i64 s):=HX.out.2.1.cell 1;have l1:=HX.out.2.1.lt;clear hg1
 go_quiet (first
  | (go_at_call 100;exact Zh7 (HND.out _)))
 go_wp2_with fail;have HX3:Hid (Below w.heap.size w (w2.drewN nq)/\Blk (w2.drewN nq) g1 316 #[.slice A N cap,.int .i64 s]/\Blk (w2.drewN nq) (g1+1) 316 #[.slice none 0 0,.int .i64 0]):=hid ⟨below_drewN HX.out.1 nq,HX.out.2.1.drewN nq,HX.out.2.2.drewN nq⟩;obtain⟨w3,hw3⟩:∃w3,w2.drewN nq=w3:=⟨_,rfl⟩;rw[hw3] at HX3 ⊢;clear hw3 HX c0 c1 l1
 go_loopw [7,8] (fun v c wr=>∃j:Nat,j<=n/\c=.int .i64 j/\(∃A' c',v=.slice A' j c')/\wr.ownsRow w3.heap.size 3 1 v j (iv (Zdg j))/\Bz0 w3 wr) (fun _ c _=>n-(intOf c).toNat)
 case atStart=>exact⟨0,by omega,rfl,⟨none,0,rfl⟩,by simpa [iv,Zdg] using World.ownsRow_nil _ _ _ _,bR0 _ _⟩
 case round=>
  obtain⟨j,hj,rfl,⟨A',c',rfl⟩,hown,hb⟩:=hrel
  by_cases hlt:j<n
  ·have hsz:=hb.size;have HO:=hid hown;have HB:=hid hb;have HT:=hid (ZfO j);clear hown hb
   go_wp2_with (at_builtin;go_must (refine Zav Zhr rfl _ _ rfl w3.heap.size _ j (iv (Zdg j)) rfl HO.out #[.int .i64 j] _ rfl rfl rfl (ZeW _) (by unfold maxLen;omega) (by omega) hsz ?_);intro A2 c2 w2 hown2 hb2)
   go_roundw
   case rel=>exact⟨j+1,by omega,by go_num,⟨A2,c2,rfl⟩,by rw[HT.out];exact hown2,HB.out.trans hb2⟩
   case measure=>simp[intOf];omega
  ·obtain rfl:j=n:=by omega
   obtain⟨m,hm⟩:∃m,j-1=m:=⟨_,rfl⟩;obtain⟨ds,hds⟩:∃ds,Zfv L s (Zcp j m)=ds:=⟨_,rfl⟩;have hgw:w.heap.size<=w3.heap.size:=HX3.out.1.size;have HNE:Hid (∀g,A'=some ⟨g,0,none⟩->w3.heap.size<=g):=hid (fun g e=>(Zbf hown g 0 e).1);have HQ:=hid hown;have HB4:=hid (HX3.out.1.trans (hb.mono hgw));have HS4:=hid (HX3.out.2.1.kept hb);have HR4:=hid (HX3.out.2.2.kept hb);have hw34:w3.heap.size<=wr.heap.size:=hb.size;have hg3:g1+1<w3.heap.size:=HX3.out.2.2.lt;have HM:=hid hm;have HDS:=hid hds;have hmn:m<=j:=by omega
   have HPM:Hid (ZkO L j s=ZbG j ds m):=hid (by rw[ZkO,hm,hds]);rw[hm];clear hown hb hds hm;go_wp2_with fail
   go_loopw [9] (fun i wr=>∃(k t:Nat),k<=m/\i=.int .i64 ((j:Int)-1-(k:Int))/\Hid (t=s+k)/\Blk wr g1 316 #[.slice A N cap,.int .i64 t]/\Blk wr (g1+1) 316 #[.slice none 0 0,.int .i64 0]/\wr.ownsRow w3.heap.size 3 1 (.slice A' j c') j (iv (ZbG j ds k))/\Bz0 w wr/\w3.heap.size<=wr.heap.size) (fun i _=>(intOf i).toNat)
   case atStart=>exact⟨0,s,by omega,by simp,hid rfl,HS4.out,HR4.out,HQ.out,HB4.out,hw34⟩
   case round=>
    obtain⟨k,t,hk,rfl,ht,hs,hr,hq,hb,hsz⟩:=hrel;have hmm:=HM.out
    by_cases hlt:k<m
    ·obtain⟨i,hi⟩:∃i,i+k+1=j:=⟨j-1-k,by omega⟩;rw[show (j:Int)-1-(k:Int)=(i:Int) by omega];have hi0:0<i:=by omega
     have hin:i<j:=by omega
     obtain⟨_,_,q1,q2,q3,q6⟩:=ZaF hq;injection q1 with q4 _ q5
     subst q4 q5;obtain⟨g,rfl,_,hgl⟩:=q6 (by omega);have hg0:=HNE.out g rfl;obtain⟨x,hx⟩:∃x,L[s+k]?=some x:=⟨_,YaA (by rw[HL.out];omega)⟩;have hdk:ds[k]?=some (x%((i:Int)+1)):=by
      rw[<-HDS.out,ZeX L s (Zcp j m) k x _ hx (ZeY j m k hlt)]
      congr 2
      omega
     have hb1:=Int.emod_nonneg x (show (i:Int)+1≠0 by omega);have hb2:=Int.emod_lt_of_pos x (show 0<(i:Int)+1 by omega);have C:=ZkI A N cap t L ((i:Int)+1) x wr HL.out (HR.out.below hb) HU.out (by omega) (by omega) (by omega) (by rw[ht.out];exact hx);obtain⟨d,hd⟩:=YaM hb1;rw[hd] at C hdk hb2;have hdj:d<j:=by omega
     have HC:=hid C;obtain⟨y,hy⟩:∃y,(ZbG j ds k)[i]?=some y:=⟨_,YaA (by rw[Za3];omega)⟩;obtain⟨z,hz⟩:∃z,(ZbG j ds k)[d]?=some z:=⟨_,YaA (by rw[Za3];omega)⟩;have HSW:Hid (ZbG j ds (k+1)=((ZbG j ds k).set i z).set d y):=hid (by
      rw[ZbG,show j-1-k=i by omega,ZhG];simp[List.getD,hdk,hy,hz])
     have HY:=hid hy;have HZ:=hid hz;have HI:=hid hi;have HSS:=hid hs;have HRR:=hid hr;have HQQ:=hid hq;have HBB:=hid hb;have c0:wr.cell? ⟨g1,0,none⟩=some (.slice A N cap):=hs.cell 0;have c1:wr.cell? ⟨g1,1,none⟩=some (.int .i64 t):=hs.cell 1;have l1:=hs.lt;have hng:g1≠g:=by omega
     have i1:(0:Int)<=(i:Int):=by omega
     have i2:(i:Int)<(j:Int):=by omega
     have i3:(0:Int)<=(d:Int):=by omega
     have i4:(d:Int)<(j:Int):=by omega
     clear hs hr hq hb C hy hz hx hdk hb1 hb2 hd q6 hi hmm;go_wp2_with fail;((with_reducible refine HC.out.mono ?_);rintro e w5 ⟨rfl,hb5⟩);have HB5:=hid hb5;have q5:=Zac HQQ.out hb5;have S5:=HSS.out.kept hb5;have cq1:=ZmC q5 hin HY.out;have cq2:=ZmC q5 hdj HZ.out;have fq1:=q5.frozenAt i;have fq2:=q5.frozenAt d;have fs0:=S5.frozen 0;have fs1:=S5.frozen 1;have cs0:=S5.cell 0;have cs1:=S5.cell 1;have l5:=S5.lt;have lg5:g<w5.heap.size:=YaK hgl hb5.size;have st5:=Za9 S5 (.slice A N cap) (.int .i64 ((t:Int)+1));have qx:=q5.kept st5.1 (.inr (Zab q5 S5 (by decide)));have c5:=ZmC (Ze0 qx i z).1 hdj (Zq5 HZ.out);have f5:=(Ze0 qx i z).1.frozenAt d;have HST:=hid st5;have HQX:=hid qx;clear hb5 q5 S5 c0 c1 l1 st5 qx;go_wp2_with fail;have P1:=Ze0 HQX.out i z;have P2:=Ze0 P1.1 d y;have HP2:=hid P2.1;have HGP:=hid (P1.2.trans P2.2);clear P1 P2 cq1 cq2 fq1 fq2 c5 f5;have hszz:w3.heap.size<=w5.heap.size:=YaH hsz HB5.out.size;have hg0':=HG.out;have HBX:Hid (Below w.heap.size w ((((w5.setCell ⟨g1,0,none⟩ (.slice A N cap)).setCell ⟨g1,1,none⟩ (.int .i64 ((t:Int)+1))).setCell ⟨g,i,none⟩ (.int .i64 z)).setCell ⟨g,d,none⟩ (.int .i64 y))):=hid (((((bT0 HBB.out HB5.out).setCell (p:=⟨g1,0,none⟩) (by show w.heap.size<=g1;omega) _).setCell (p:=⟨g1,1,none⟩) (by show w.heap.size<=g1;omega) _).setCell (p:=⟨g,i,none⟩) (by show w.heap.size<=g;omega) _).setCell (p:=⟨g,d,none⟩) (by show w.heap.size<=g;omega) _)
     go_roundw
     case rel=>
      refine⟨k+1,t+1,by omega,by have:=HI.out;congr 1;omega,hid (by have:=ht.out;omega),?_,?_,?_,?_,?_⟩
      ·exact(HST.out.2.grown HGP.out (by simpa using hng)).alloc _
      ·exact(((HRR.out.kept HB5.out).grown HST.out.1 (by simp)).grown HGP.out (by simp;omega)).alloc _
      ·rw[HSW.out];exact HP2.out.alloc _
      ·exact HBX.out.alloc (by simp[World.setCell];omega) _
      ·simp[World.setCell];omega
     case measure=>simp[intOf];omega
    ·obtain rfl:k=m:=by omega
     obtain⟨z,hz⟩:∃z,(j:Int)-1-(k:Int)=z:=⟨_,rfl⟩;have hz0:z<=0:=by omega
     rw[hz];have HO:=hid (Zae hq hgw);have HBB:=hid hb;have HRR:=hid hr;have c0:wr.cell? ⟨g1,0,none⟩=some (.slice A N cap):=hs.cell 0;have c1:wr.cell? ⟨g1,1,none⟩=some (.int .i64 t):=hs.cell 1;have l1:=hs.lt;have r0:=hr.cell 0;have r1:=hr.cell 1;have f0:=hr.frozen 0;have f1:=hr.frozen 1;have l2:=hr.lt;clear hs hr hq hb hz hmm;go_wp2_with fail;have hst:=Za9 HRR.out (.slice A N cap) (.int .i64 t);have ht2:t=s+(j-1):=by rw[ht.out,HM.out]
     exact bodyPost_ret (v:=.tuple #[.agg #[.slice A N cap,.int .i64 t],.slice A' j c',.bool true]) (by simp[results,results177,go_sem,r0,r1,l2,f0,f1]) rfl ⟨A',c',by rw[ht2],by
      rw[HPM.out];exact HO.out.kept hst.1 (.inr (Zab HO.out HRR.out (by decide))),Zai HBB.out HBB.out.size hst.1 (by have:=HG.out;omega)⟩
