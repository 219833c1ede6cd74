/- Lemmas. -/
import Derived.Test.YtkmaeipoaoikpaaGreatEC16
namespace Go.Proofs.YtkmaeipoaoikpaaGreat
set_option linter.all false
set_option maxRecDepth 100000
set_option maxHeartbeats 8000000
open Lib (hid)
open Go.RowKit
open Tryz
def Zxr(ops:Array Oper)(E:List Nat)(x y:Nat)(T:List Nat):Bool:=
 Region.noSelect ops && Zpy .any ops E (Array.replicate ops.size false) && decide (Region.ready .any ops (Zam (Array.replicate ops.size false) E)=[x,y]) &&
  ZlA .any ops (y::T) ((Zam (Array.replicate ops.size false) E).setIfInBounds x true) && ZlA .any ops (x::T) ((Zam (Array.replicate ops.size false) E).setIfInBounds y true) && decide (E.length+(T.length+2)=ops.size) && (x::y::T).all (fun t=>decide (t<ops.size))
theorem Zjw{P:Program}{id:Nat}{Q:Exit->Act->World->Prop}{a:Act}{w:World}{l:List Oper}(E:List Nat)(x y:Nat)(T:List Nat)(hm:P.follows .mixedOrders=true)(hB:Zxr l.toArray E x y T=true)
  (h:Zdj P l.toArray (fun a'=>wpList P l.toArray (NoPanic Q) ((x::y::T).filterMap (l[·]?)) a' w.drew/\wpList P l.toArray (NoPanic Q) ((y::x::T).filterMap (l[·]?)) a' w.drew) E a):(Code.region id l.toArray true).wp P Q a w:=by
 simp only[Zxr,YaQ,decide_eq_true_eq] at hB;obtain⟨⟨⟨⟨⟨⟨hsel,hpu⟩,hready⟩,hsx⟩,hsy⟩,hlen⟩,hin⟩:=hB;have hin':∀t∈x::y::T,t<l.length:=fun t ht=>by simpa using List.all_eq_true.1 hin t ht
 have hx:x<l.length:=hin' x (by simp);have hy:y<l.length:=hin' y (by simp);have hT:∀t∈T,t<l.length:=fun t ht=>hin' t (by simp[ht])
 refine wp_region_noPanic (wp_region_any hm ?_);have h2:=Zna (P:=P) (md:=.any) (Q:=Q) (w:=w.drew) hsel (fuel:=T.length+2) E _ a hpu (fun a' h'=>?_) h
 ·rw[hlen] at h2;exact h2
 ·obtain⟨hxy,hyx⟩:=h';refine⟨fun h0=>(by rw[hready] at h0;cases h0),fun i hi=>?_⟩;rw[hready] at hi;have key:∀u v,u<l.length->v<l.length->ZlA .any l.toArray (v::T) ((Zam (Array.replicate l.toArray.size false) E).setIfInBounds u true)=true->wpList P l.toArray (NoPanic Q) ((u::v::T).filterMap (l[·]?)) a' w.drew ->
    wpOp P l.toArray (NoPanic Q) u (wpAny P .any l.toArray (NoPanic Q) (T.length+1) ((Zam (Array.replicate l.toArray.size false) E).setIfInBounds u true)) a' w.drew:=by
   intro u v hu hv hs hl;rw[List.filterMap_cons_some (YaA hu)] at hl;have hw:wpOp P l.toArray (NoPanic Q) u (wpList P l.toArray (NoPanic Q) ((v::T).filterMap (l[·]?))) a' w.drew:=by
    unfold wpOp;have:l.toArray[u]?=some l[u]:=by simp[hu]
    simp only[this];exact hl
   refine wpOp_mono (fun a'' w'' h''=>?_) hw;exact Znc (P:=P) (md:=.any) (Q':=NoPanic Q) (v::T) _ _ a'' w'' (Zau (v::T) (fun t ht=>by
    rcases List.mem_cons.1 ht with rfl|ht
    ·exact hv
    ·exact hT t ht)) hs h''
  rcases List.mem_cons.1 hi with rfl|hi
  ·exact key _ _ hx hy hsx hxy
  ·have hiy:i=y:=by simpa using hi
   subst hiy;exact key _ _ hy hx hsy hyx
def Zwi(w:World)(n:Nat)(Ps Ms:List Int)(en:Ending)(w':World):Prop:=
 ∃AP cP AM cM,en=.returned (.agg #[.slice AP n cP,.slice AM n cM])/\w'.ownsRow w.heap.size 2 1 (.slice AP n cP) n (iv Ps)/\w'.ownsRow w.heap.size 2 1 (.slice AM n cM) n (iv Ms) /\
  (∀g h,(Value.slice AP n cP).ownBlock=some g->(Value.slice AM n cM).ownBlock=some h->g≠h)/\Bz0 w w'
theorem ZkZ(A:Option Addr)(n c:Nat)(l:List Int)(w:World)(hl:l.length=n)(h:Rd w 1 A n (iv l))(hn:n<=1000000) :
  Calls prog 41 #[.slice A n c] w (Zwi w n l (Zas n)):=by
 have HC:=hid (fun W (hb:Below w.heap.size w W)=>Za0 A n c l W hl (h.below hb) (by omega));obtain⟨i0,hi0,q0,q1,q2⟩:=info_parts ZeL.info;clear hl h
 go_enter func41,ntmps41
 go_wp2_with fail;obtain⟨w0,hw0⟩:∃w0,w.alloc (.cells #[.slice none 0 0,.slice none 0 0] 92)=w0:=⟨_,rfl⟩;have k0:Below w.heap.size w w0:=by rw[<-hw0];exact bA0 _
 have S0:Blk w0 w.heap.size 92 #[.slice none 0 0,.slice none 0 0]:=by rw[<-hw0];exact Blk.new _ _ _
 rw[hw0];clear hw0;have kd:Below w.heap.size w w0.drew:=k0.drew;have KD:=hid kd;have SD:=hid S0.drew;clear k0 S0 kd;refine Zjw [0,2,3] 1 4 [5,6] (by kernel_rfl) (by kernel_rfl) ?_;refine⟨_,_,rfl,.inl ⟨rfl,fun w=>rfl⟩,?_⟩;refine⟨_,_,rfl,.inl ⟨rfl,fun w=>rfl⟩,?_⟩;refine⟨_,.int .i64 n,rfl,.inl ⟨rfl,fun w=>by go_simp⟩,?_⟩;simp only[Zdj,YaO,YaP,YaB,YaC];go_simp;refine⟨?_,?_⟩
 ·change wpList _ _ _ (_::_::_::_::[]) _ _;go_wp2_with fail;((with_reducible refine(HC.out _ KD.out).mono ?_);rintro e w1 ⟨A1,c1,rfl,hown1,hb1⟩);have K1:=hid ((Zag.of KD.out).call hb1).2.2;have S1:=hid (SD.out.kept hb1);have O1:=hid hown1;clear hown1 hb1
  go_wp2_with (at_make;go_must (refine wpList_make_full w1 rfl _ _ _ rfl w1.heap.size 2 i0 (.int .i64 0) 1 Zhy.slice hi0 q0 q1 .i64 .i64 _ _ n rfl rfl rfl rfl (by rw[q2];omega) (by unfold maxLen;omega) (YaF _) ?_);intro w2 hown2 hg2;(have K2:=hid (Below.grown (bR0 w1.heap.size w1) hg2 (YaF _) (by simp)));(have O2:=hid hown2);(have s0:w2.cell? ⟨w.heap.size,0,none⟩=some (.slice none 0 0):=(S1.out.kept K2.out).cell 0);(have s1:w2.cell? ⟨w.heap.size,1,none⟩=some (.slice none 0 0):=(S1.out.kept K2.out).cell 1);(have f0:=(S1.out.kept K2.out).frozen 0);(have f1:=(S1.out.kept K2.out).frozen 1);(have ls:=(S1.out.kept K2.out).lt);clear hown2 hg2)
  refine NoPanic.normal ?_;go_wp2_with fail;have S2:=S1.out.kept K2.out;have hst:=Za9 S2 (.slice A1 n c1) (.slice (some ⟨w1.heap.size,0,none⟩) n n);have hz:=K1.out.size;have o1:=Zac O1.out K2.out;have o2:=O2.out;rw[ZeN] at o2;have kd:=KD.out.size;refine bodyPost_ret (v:=.agg #[.slice A1 n c1,.slice (some ⟨w1.heap.size,0,none⟩) n n]) (by simp[results,results41,go_sem,s0,s1,ls]) rfl ⟨_,_,_,_,rfl,Zae (o1.kept hst.1 (.inr (Zab o1 S2 (by decide)))) kd,Zae (o2.kept hst.1 (.inr (Zab o2 S2 (by decide)))) hz,fun g h hg hh=>?_,Zai ((Zag.of K1.out).call K2.out).2.2 (YaH hz K2.out.size) hst.1 (YaF _)⟩;have a1:=(O1.out.lt g hg).2;have a2:=(O2.out.lt h hh).1;omega
 ·change wpList _ _ _ (_::_::_::_::[]) _ _
  go_wp2_with (at_make;go_must (refine wpList_make_full w0.drew rfl _ _ _ rfl w0.drew.heap.size 2 i0 (.int .i64 0) 1 Zhy.slice hi0 q0 q1 .i64 .i64 _ _ n rfl rfl rfl rfl (by rw[q2];omega) (by unfold maxLen;omega) (YaF _) ?_);intro w2 hown2 hg2;(have K2:=hid (Below.grown (bR0 w0.drew.heap.size w0.drew) hg2 (YaF _) (by simp)));(have O2:=hid hown2);clear hown2 hg2)
  have KK2:=hid ((Zag.of KD.out).call K2.out).2.2;((with_reducible refine(HC.out _ KK2.out).mono ?_);rintro e w1 ⟨A1,c1,rfl,hown1,hb1⟩);have K1:=hid ((Zag.of KK2.out).call hb1).2.2;have S1:=hid ((SD.out.kept K2.out).kept hb1);have O1:=hid hown1;have O3:=hid (Zac O2.out hb1);have s0:w1.cell? ⟨w.heap.size,0,none⟩=some (.slice none 0 0):=S1.out.cell 0;have s1:w1.cell? ⟨w.heap.size,1,none⟩=some (.slice none 0 0):=S1.out.cell 1;have f0:=S1.out.frozen 0;have f1:=S1.out.frozen 1;have ls:=S1.out.lt;clear hown1 hb1;go_wp2_with fail;refine NoPanic.normal ?_;go_wp2_with fail;have hst:=Za9 S1.out (.slice A1 n c1) (.slice (some ⟨w0.heap.size,0,none⟩) n n);have hz:=K1.out.size;have o1:=O1.out;have o2:=O3.out;rw[ZeN] at o2;have kd:=KD.out.size;have kd2:=KK2.out.size;refine bodyPost_ret (v:=.agg #[.slice A1 n c1,.slice (some ⟨w0.heap.size,0,none⟩) n n]) (by simp[results,results41,go_sem,s0,s1,ls]) rfl ⟨_,_,_,_,rfl,Zae (o1.kept hst.1 (.inr (Zab o1 S1.out (by decide)))) kd2,Zae (o2.kept hst.1 (.inr (Zab o2 S1.out (by decide)))) kd,fun g h hg hh=>?_,Zai K1.out hz hst.1 (YaF _)⟩;have a1:=(O1.out.lt g hg).1;have a2:=(O2.out.lt h hh).2;omega
theorem Zu9(l:List (Int×Int)):∀u∈rv l,u.oneCell'=true:=fun u h=>ZvQ u l h
theorem ZoW(A:Option Addr)(n cap:Nat)(l:List (Int×Int))(w:World)(hl:l.length=n)(h:Rd w 2 A n (rv l))(hn:n<=1000000) :
  Calls prog 111 #[.slice A n cap] w (Zal w 218 2 n (rv l)):=by
 have HR:=hid h;have HL:=hid hl;have hq:=fun(w:World) (a:Option Addr) (n c:Nat)=>Lib.run_eql_slice_nil (P:=prog) w 113 218 a n c 0 0 underlying113
 clear h hl
 cases A with
 |none=>
  have hn0:n=0:=by
   rcases Nat.eq_zero_or_pos n with h0|h0
   ·exact h0
   ·obtain⟨b,o,h,_⟩:=HR.out.2 h0;cases h
  subst hn0;have hl0:l=[]:=List.eq_nil_of_length_eq_zero HL.out;subst hl0
  go_enter func111,ntmps111
  go_wp2;go_ret;exact⟨none,0,rfl,by simpa [rv] using World.ownsRow_nil _ _ _ _,bR0 _ _⟩
 |some ad=>
  go_enter func111,ntmps111
  go_wp2_with (at_builtin;go_must (refine Za5 ZfF rfl _ _ rfl w.heap.size _ 0 [] rfl (World.ownsRow_lit w #[] 0 (YaF _) (by unfold maxLen;omega) rfl) (some ad) n cap (rv l) rfl (HR.out.alloc _) (Zu9 l) (by unfold maxLen;omega) (by omega) (by simp) ?_);intro A' cap' w1 hown1 hb1)
  go_ret;exact⟨A',cap',by simp,by simpa using hown1,(bA0 _).trans hb1⟩
section
variable(pc:PlC)(c:Cfg)(A:Option Addr)(n cap b:Nat)(x t i:Int)(w:World)
theorem ZgS(hp:pc.Ok)(h:Zdx w b pc c A n cap) :
  Calls prog 44 #[.pointer (some ⟨b,0,none⟩)] w (Zal w 218 2 pc.nb (rv pc.bks)):=by
 obtain⟨Ab,cb,Ag,cg,Al,cl,h1,h2,h3,h4,_⟩:=h;have c12:w.cell? ⟨b,12,none⟩=some (.slice Ab pc.nb cb):=h1.cell 12;have lb:=h1.lt;have HC:=hid (ZoW Ab pc.nb cb pc.bks w pc.bks_length h2 (by have:=PlC.nb_le hp;omega));clear h1 h2 h3 h4 hp
 go_enter func44,ntmps44
 go_wp2_with fail;((with_reducible refine HC.out.mono ?_);rintro e w1 ⟨A1,c1,rfl,hown,hb⟩);have HO:=hid (And.intro hown hb);clear hown hb;go_wp2_with fail;go_ret;exact⟨A1,c1,rfl,HO.out.1,HO.out.2⟩
end
def InC.its(I:InC)(x:Nat):List ZaH:=(I.mc x).pc.stepI (I.mc x).st x 0
def ZdD(I:InC)(x:Nat):MS:=⟨I.P0,Zas I.P,Zas I.P,[(I.P0,Zas I.P)],I.its x,0,0,[]⟩
section
variable(I:InC)(x bs smb plb:Nat)(B:Nat)(F:Nat→Prop)
def X8(w:World)(S:Option Addr)(c:Nat)(l:List StS):Prop:=l.length=I.m/\Hg F w (fun W=>W.ownsRow 0 162 2 (.slice S I.m c) I.m (stv I.N I.M l)/\ZcO W 0 I.N I.M l I.f)
def X12(w:World)(A:Option Addr)(c:Nat):Prop:=Hg F w (fun W=>W.ownsRow 0 218 2 (.slice A (I.mc x).pc.nb c) (I.mc x).pc.nb (rv (I.mc x).pc.bks))
def X24(w:World)(g:Nat):Prop:=B<=g/\¬F g/\w.ownsRow 0 2 1 (.slice (some ⟨g,0,none⟩) I.P I.P) I.P (iv (Zas I.P))
def X26(w:World)(y:StS):Prop:=Hg F w (fun W=>ZcO W 0 I.P I.P [y] (ZjY [(I.P0,Zas I.P)]))
def X27(w:World)(g:Nat)(y:StS):Prop:=B<=g/\¬F g/\w.ownsRow 0 92 2 (.slice (some ⟨g,0,none⟩) 1 1) 1 (stv I.P I.P [y])
def X30(w:World)(A:Option Addr)(c:Nat):Prop:=Hg F w (fun W=>W.ownsRow 0 222 12 (.slice A (I.its x).length c) (I.its x).length (ZaJ (I.its x)))
def Zec(sP sM:Value)(j:Nat)(v:Value)(w:World):Prop:=
 (j=8->∃S c l,v=.slice S I.m c/\X8 I F w S c l) /\
 (j=12->∃A c,v=.slice A (I.mc x).pc.nb c/\X12 I x F w A c) /\
 (j=20->∃S c l A d,v=.agg #[.int .i64 x,.int .i64 I.c.wk,.int .i64 I.c.mi,.pointer (some ⟨bs,0,none⟩),.slice S I.m c,.pointer (some ⟨smb,0,none⟩),.pointer (some ⟨plb,0,none⟩),.slice A (I.mc x).pc.nb d,.int .i64 I.c.ra,.int .i64 I.c.mo,.int .i64 I.c.sh]/\X8 I F w S c l/\X12 I x F w A d) /\
 (j=23->v=.int .i64 I.P) /\
 (j=24->∃g,v=.slice (some ⟨g,0,none⟩) I.P I.P/\X24 I B F w g) /\
 (j=26->∃y:StS,v=.agg #[.slice y.1 I.P y.2.1,.slice y.2.2.1 I.P y.2.2.2]/\X26 I F w y) /\
 (j=27->∃g y,v=.slice (some ⟨g,0,none⟩) 1 1/\X27 I B F w g y/\X26 I F w y) /\
 (j=30->∃A c,v=.slice A (I.its x).length c/\X30 I x F w A c) /\
 (j=31->∃S c l A d gg gr y AI cI,v=.agg #[.int .i64 x,.int .i64 I.c.wk,.int .i64 I.c.mi,.pointer (some ⟨bs,0,none⟩),.slice S I.m c,.pointer (some ⟨smb,0,none⟩),.pointer (some ⟨plb,0,none⟩),.slice A (I.mc x).pc.nb d,.int .i64 I.c.ra,.int .i64 I.c.mo,.int .i64 I.c.sh,
  sP,sM,.slice (some ⟨gg,0,none⟩) I.P I.P,.slice (some ⟨gr,0,none⟩) 1 1,.slice AI (I.its x).length cI,.int .i64 0,.int .i64 0,.slice none 0 0]/\X8 I F w S c l/\X12 I x F w A d/\X24 I B F w gg/\X26 I F w y/\X27 I B F w gr y/\X30 I x F w AI cI)
end
section
variable{I:InC}{x bs smb plb:Nat}{B:Nat}{F F':Nat→Prop}{w w':World}
theorem Hg.grow{P:World->Prop}(h:Hg F w P)(hb:Below w.heap.size w w')(hF:∀i,i<w.heap.size->(F' i↔F i)):Hg F' w' P:=(h.mono (fun i hi hFi=>(hF i hi).2 hFi)).below hb
theorem X8.grow{S:Option Addr}{c:Nat}{l:List StS}(h:X8 I F w S c l)(hb:Below w.heap.size w w')(hF:∀i,i<w.heap.size->(F' i↔F i)):X8 I F' w' S c l:=⟨h.1,h.2.grow hb hF⟩
theorem X12.grow{A:Option Addr}{c:Nat}(h:X12 I x F w A c)(hb:Below w.heap.size w w')(hF:∀i,i<w.heap.size->(F' i↔F i)):X12 I x F' w' A c:=Hg.grow h hb hF
theorem X24.grow{g:Nat}(h:X24 I B F w g)(hb:Below w.heap.size w w')(hF:∀i,i<w.heap.size->(F' i↔F i)):X24 I B F' w' g:=⟨h.1,fun e=>h.2.1 ((hF g (h.2.2.lt g rfl).2).1 e),Zac h.2.2 hb⟩
theorem X26.grow{y:StS}(h:X26 I F w y)(hb:Below w.heap.size w w')(hF:∀i,i<w.heap.size->(F' i↔F i)):X26 I F' w' y:=Hg.grow h hb hF
theorem X27.grow{g:Nat}{y:StS}(h:X27 I B F w g y)(hb:Below w.heap.size w w')(hF:∀i,i<w.heap.size->(F' i↔F i)):X27 I B F' w' g y:=⟨h.1,fun e=>h.2.1 ((hF g (h.2.2.lt g rfl).2).1 e),Zac h.2.2 hb⟩
theorem X30.grow{A:Option Addr}{c:Nat}(h:X30 I x F w A c)(hb:Below w.heap.size w w')(hF:∀i,i<w.heap.size->(F' i↔F i)):X30 I x F' w' A c:=Hg.grow h hb hF
theorem Zec.grow{sP sM:Value}(F F':Nat->Prop)(j:Nat)(v:Value)(w w':World)(h:Zec I x bs smb plb B F sP sM j v w)(hb:Below w.heap.size w w')(hF:∀i,i<w.heap.size->(F' i↔F i)):Zec I x bs smb plb B F' sP sM j v w':=by
 obtain⟨h1,h2,h3,h4,h5,h6,h7,h8,h9⟩:=h;refine⟨fun e=>?_,fun e=>?_,fun e=>?_,h4,fun e=>?_,fun e=>?_,fun e=>?_,fun e=>?_,fun e=>?_⟩
 ·obtain⟨S,c,l,hv,a⟩:=h1 e;exact⟨S,c,l,hv,a.grow hb hF⟩
 ·obtain⟨A,c,hv,a⟩:=h2 e;exact⟨A,c,hv,a.grow hb hF⟩
 ·obtain⟨S,c,l,A,d,hv,a,b⟩:=h3 e;exact⟨S,c,l,A,d,hv,a.grow hb hF,b.grow hb hF⟩
 ·obtain⟨g,hv,a⟩:=h5 e;exact⟨g,hv,a.grow hb hF⟩
 ·obtain⟨y,hv,a⟩:=h6 e;exact⟨y,hv,a.grow hb hF⟩
 ·obtain⟨g,y,hv,a,b⟩:=h7 e;exact⟨g,y,hv,a.grow hb hF,b.grow hb hF⟩
 ·obtain⟨A,c,hv,a⟩:=h8 e;exact⟨A,c,hv,a.grow hb hF⟩
 ·obtain⟨S,c,l,A,d,gg,gr,y,AI,cI,hv,a,b,b2,b3,b4,b5⟩:=h9 e;exact⟨S,c,l,A,d,gg,gr,y,AI,cI,hv,a.grow hb hF,b.grow hb hF,b2.grow hb hF,b3.grow hb hF,b4.grow hb hF,b5.grow hb hF⟩
end
section
variable{I:InC}{x bs smb plb:Nat}{B:Nat}{F F':Nat→Prop}{w w':World}
variable{sP sM:Value}{v:Value}
theorem Zec.mk8{S:Option Addr}{c:Nat}{l:List StS}(h:X8 I F w S c l):Zec I x bs smb plb B F sP sM 8 (.slice S I.m c) w:=⟨fun _=>⟨S,c,l,rfl,h⟩,fun e=>by omega,fun e=>by omega,fun e=>by omega,fun e=>by omega,fun e=>by omega,fun e=>by omega,fun e=>by omega,fun e=>by omega⟩
theorem Zec.mk12{A:Option Addr}{c:Nat}(h:X12 I x F w A c):Zec I x bs smb plb B F sP sM 12 (.slice A (I.mc x).pc.nb c) w:=⟨fun e=>by omega,fun _=>⟨A,c,rfl,h⟩,fun e=>by omega,fun e=>by omega,fun e=>by omega,fun e=>by omega,fun e=>by omega,fun e=>by omega,fun e=>by omega⟩
theorem Zec.mk20{S A:Option Addr}{c d:Nat}{l:List StS}(h:X8 I F w S c l)(h2:X12 I x F w A d):Zec I x bs smb plb B F sP sM 20 (.agg #[.int .i64 x,.int .i64 I.c.wk,.int .i64 I.c.mi,.pointer (some ⟨bs,0,none⟩),.slice S I.m c,.pointer (some ⟨smb,0,none⟩),.pointer (some ⟨plb,0,none⟩),.slice A (I.mc x).pc.nb d,.int .i64 I.c.ra,.int .i64 I.c.mo,.int .i64 I.c.sh]) w:=
 ⟨fun e=>by omega,fun e=>by omega,fun _=>⟨S,c,l,A,d,rfl,h,h2⟩,fun e=>by omega,fun e=>by omega,fun e=>by omega,fun e=>by omega,fun e=>by omega,fun e=>by omega⟩
theorem Zec.mk23:Zec I x bs smb plb B F sP sM 23 (.int .i64 I.P) w:=⟨fun e=>by omega,fun e=>by omega,fun e=>by omega,fun _=>rfl,fun e=>by omega,fun e=>by omega,fun e=>by omega,fun e=>by omega,fun e=>by omega⟩
theorem Zec.mk24{g:Nat}(h:X24 I B F w g):Zec I x bs smb plb B F sP sM 24 (.slice (some ⟨g,0,none⟩) I.P I.P) w:=⟨fun e=>by omega,fun e=>by omega,fun e=>by omega,fun e=>by omega,fun _=>⟨g,rfl,h⟩,fun e=>by omega,fun e=>by omega,fun e=>by omega,fun e=>by omega⟩
theorem Zec.mk26{y:StS}(h:X26 I F w y):Zec I x bs smb plb B F sP sM 26 (.agg #[.slice y.1 I.P y.2.1,.slice y.2.2.1 I.P y.2.2.2]) w:=⟨fun e=>by omega,fun e=>by omega,fun e=>by omega,fun e=>by omega,fun e=>by omega,fun _=>⟨y,rfl,h⟩,fun e=>by omega,fun e=>by omega,fun e=>by omega⟩
theorem Zec.mk27{g:Nat}{y:StS}(h:X27 I B F w g y)(h2:X26 I F w y):Zec I x bs smb plb B F sP sM 27 (.slice (some ⟨g,0,none⟩) 1 1) w:=⟨fun e=>by omega,fun e=>by omega,fun e=>by omega,fun e=>by omega,fun e=>by omega,fun e=>by omega,fun _=>⟨g,y,rfl,h,h2⟩,fun e=>by omega,fun e=>by omega⟩
theorem Zec.mk30{A:Option Addr}{c:Nat}(h:X30 I x F w A c):Zec I x bs smb plb B F sP sM 30 (.slice A (I.its x).length c) w:=⟨fun e=>by omega,fun e=>by omega,fun e=>by omega,fun e=>by omega,fun e=>by omega,fun e=>by omega,fun e=>by omega,fun _=>⟨A,c,rfl,h⟩,fun e=>by omega⟩
theorem Zec.mk31{S A AI:Option Addr}{c d gg gr cI:Nat}{l:List StS}{y:StS}(h:X8 I F w S c l)(h2:X12 I x F w A d)(h3:X24 I B F w gg)(h4:X26 I F w y)(h5:X27 I B F w gr y)(h6:X30 I x F w AI cI):Zec I x bs smb plb B F sP sM 31 (.agg #[.int .i64 x,.int .i64 I.c.wk,.int .i64 I.c.mi,.pointer (some ⟨bs,0,none⟩),.slice S I.m c,.pointer (some ⟨smb,0,none⟩),.pointer (some ⟨plb,0,none⟩),.slice A (I.mc x).pc.nb d,.int .i64 I.c.ra,.int .i64 I.c.mo,.int .i64 I.c.sh,
  sP,sM,.slice (some ⟨gg,0,none⟩) I.P I.P,.slice (some ⟨gr,0,none⟩) 1 1,.slice AI (I.its x).length cI,.int .i64 0,.int .i64 0,.slice none 0 0]) w:=
 ⟨fun e=>by omega,fun e=>by omega,fun e=>by omega,fun e=>by omega,fun e=>by omega,fun e=>by omega,fun e=>by omega,fun e=>by omega,fun _=>⟨S,c,l,A,d,gg,gr,y,AI,cI,rfl,h,h2,h3,h4,h5,h6⟩⟩
end
theorem ZmE(n:Nat):Zaw (Zas n):=by
 intro x hx;have:=List.eq_of_mem_replicate hx;subst this;exact⟨by decide,by decide⟩
abbrev Zwj(I:InC)(x bs smb plb gp cP gm cM:Nat)(S A AI:Option Addr)(c d gg gr cI:Nat):Array Value:=#[.int .i64 x,.int .i64 I.c.wk,.int .i64 I.c.mi,.pointer (some ⟨bs,0,none⟩),.slice S I.m c,.pointer (some ⟨smb,0,none⟩),.pointer (some ⟨plb,0,none⟩),.slice A (I.mc x).pc.nb d,.int .i64 I.c.ra,.int .i64 I.c.mo,.int .i64 I.c.sh,
  .slice (some ⟨gp,0,none⟩) I.P cP,.slice (some ⟨gm,0,none⟩) I.P cM,.slice (some ⟨gg,0,none⟩) I.P I.P,.slice (some ⟨gr,0,none⟩) 1 1,.slice AI (I.its x).length cI,.int .i64 0,.int .i64 0,.slice none 0 0]
theorem Ztk{I:InC}{x bs smb plb base:Nat}{gp cP gm cM lo hi:Nat}{F:Nat->Prop}{w8 W:World}{S8 A8 AI:Option Addr}{c8 d8 g24 g27 cI:Nat}{l8:List StS}{y:StS}(HK:(I.mc x).Ok)(HO:I.Ok)
  (h1:Hg (fun i=>lo<=i/\i<hi) w8 (fun W=>ZaC W base bs I.l I.n)) (h2:Hg (fun i=>lo<=i/\i<hi) w8 (fun W=>ZcB W 0 smb I.c.ba.toNat I.c.st.toNat (I.m/I.c.ba.toNat) (cnt I.c.st.toNat (I.m/I.c.ba.toNat)) (Zat (I.m/I.c.ba.toNat*I.c.ba.toNat) I.c.ba.toNat) (ZbU I.L I.m (cnt I.c.st.toNat (I.m/I.c.ba.toNat)))))
  (h3:Hg (fun i=>lo<=i/\i<hi) w8 (fun W=>Zdx W plb (I.mc x).pc I.c I.A I.n I.cap)) (hi8:hi<=w8.heap.size) (hlo:lo<=hi) (hF:∀i,i<w8.heap.size->(F i↔(lo<=i/\i<hi))) (hb:Below w8.heap.size w8 W)
  (hp:w8.ownsRow hi 2 1 (.slice (some ⟨gp,0,none⟩) I.P cP) I.P (iv I.P0)) (hq:w8.ownsRow hi 2 1 (.slice (some ⟨gm,0,none⟩) I.P cM) I.P (iv (Zas I.P))) (hpm:gp≠gm)
  (x8:X8 I F W S8 c8 l8) (x12:X12 I x F W A8 d8) (x24:X24 I w8.heap.size F W g24) (x26:X26 I F W y) (x27:X27 I w8.heap.size F W g27 y) (x30:X30 I x F W AI cI) :
  Zaz (fun i=>lo<=i) (W.alloc (.cells (Zwj I x bs smb plb gp cP gm cM S8 A8 AI c8 d8 g24 g27 cI) 121)) W.heap.size (I.mc x) (ZdD I x):=by
 have hN:=HO.nums;have hgp:=hp.lt gp rfl;have hgm:=hq.lt gm rfl;have hnF:∀g,hi<=g->g<w8.heap.size->¬F g:=fun g a b e=>by have:=((hF g b).1 e).2;omega
 have hba:Below W.heap.size W (W.alloc (.cells (Zwj I x bs smb plb gp cP gm cM S8 A8 AI c8 d8 g24 g27 cI) 121)):=bA0 _;have m0:∀{Q:World->Prop},Hg (fun i=>lo<=i/\i<hi) w8 Q->Hg (fun i=>F i/\i<W.heap.size) W Q:=fun h=>(h.below hb).mono (fun i hiW hi'=>⟨(hF i (by omega)).2 hi',hiW⟩)
 have m1:∀{Q:World->Prop},Hg F W Q->Hg (fun i=>F i/\i<W.heap.size) W Q:=fun h=>h.mono (fun i hiW hi'=>⟨hi',hiW⟩)
 have hfz:Hg (fun i=>F i/\i<W.heap.size) W (fun V=>Zwg V (I.mc x) (ZdD I x) { base:=base,bs:=bs,S:=S8,cS:=c8,es:=l8,smb:=smb,plb:=plb,A:=I.A,nA:=I.n,capA:=I.cap,Ab:=A8,cb:=d8,gp:=gp,cP:=cP,gm:=gm,cM:=cM,gg:=g24,cG:=I.P,AR:=some ⟨g27,0,none⟩,cR:=1,rs:=[y],AI:=AI,cI:=cI,AO:=none,cO:=0 }):=by
  refine Hg.imp ((((((m0 h1).and (m0 h2)).and (m0 h3)).and (m1 x8.2)).and (m1 x12)).and ((m1 x26).and (m1 x30))) ?_;rintro V ⟨⟨⟨⟨⟨a1,a2⟩,a3⟩,a4⟩,a5⟩,a6,a7⟩;exact⟨a1,a4.1,x8.1,a4.2,a2,a3,a5,a7,rfl,a6⟩
 refine⟨fun i=>F i/\i<W.heap.size,_,⟨?_,hfz.below hba,Zae ((Zac hp hb).alloc _) (Nat.zero_le _),Zae ((Zac hq hb).alloc _) (Nat.zero_le _),x24.2.2.alloc _,x27.2.2.alloc _,World.ownsRow_nil _ _ _ _,hpm,?_,?_,?_,fun i hi=>?_,HO.pi,ZmE _,?_,Nat.zero_le _,?_,?_,?_⟩,fun i hi=>?_,fun i hi=>?_⟩
 ·have e1:((I.mc x).pc.m:Int)=I.c.wk:=by show (I.c.wk.toNat:Int)=_;have:=hN.wk;omega
  have e2:((I.mc x).pc.mi:Int)=I.c.mi:=by show (I.c.mi.toNat:Int)=_;have:=hN.mi;omega
  have:=Blk.new W 121 (Zwj I x bs smb plb gp cP gm cM S8 A8 AI c8 d8 g24 g27 cI);have ec:ZcC (I.mc x) (ZdD I x) { base:=base,bs:=bs,S:=S8,cS:=c8,es:=l8,smb:=smb,plb:=plb,A:=I.A,nA:=I.n,capA:=I.cap,Ab:=A8,cb:=d8,gp:=gp,cP:=cP,gm:=gm,cM:=cM,gg:=g24,cG:=I.P,AR:=some ⟨g27,0,none⟩,cR:=1,rs:=[y],AI:=AI,cI:=cI,AO:=none,cO:=0 }=Zwj I x bs smb plb gp cP gm cM S8 A8 AI c8 d8 g24 g27 cI:=by
   unfold ZcC Zwj;rw[e1,e2];rfl
  rw[ec];exact this
 ·intro e;have:=x24.1;have e':gp=g24:=e;omega
 ·intro e;have:=x24.1;have e':gm=g24:=e;omega
 ·rintro i (hi|hi|hi|hi|hi|hi) ⟨hFi,hlt⟩
  ·have hi':i=W.heap.size:=hi;omega
  ·have hi':i=gp:=hi;rw[hi'] at hFi;exact hnF gp hgp.1 hgp.2 hFi
  ·have hi':i=gm:=hi;rw[hi'] at hFi;exact hnF gm hgm.1 hgm.2 hFi
  ·have hi':i=g24:=hi;rw[hi'] at hFi;exact x24.2.1 hFi
  ·have hi':g27=i:=by simpa [ZaX,Value.ownBlock] using hi
   rw[<-hi'] at hFi;exact x27.2.1 hFi
  ·simp[ZaX,Value.ownBlock] at hi
 ·exact YaK hi.2 hba.size
 ·show 1<=1000
  omega
 ·show (I.its x).length<=200000000
  unfold InC.its PlC.stepI
  split
  ·exact PlC.itemsI_le HK.pcok _ _
  ·simp
 ·show 0<=1000000000000
  omega
 ·show 0<=1000000
  omega
 ·obtain⟨hFi,hlt⟩:=hi
  by_cases h:i<w8.heap.size
  ·exact((hF i h).1 hFi).1
  ·omega
 ·rcases hi with hi|hi|hi|hi|hi|hi
  ·have hi':i=W.heap.size:=hi;have:=hb.size;omega
  ·have hi':i=gp:=hi;omega
  ·have hi':i=gm:=hi;omega
  ·have hi':i=g24:=hi;have:=x24.1;omega
  ·have hi':g27=i:=by simpa [ZaX,Value.ownBlock] using hi
   have:=x27.1;omega
  ·simp[ZaX,Value.ownBlock] at hi
theorem Zez.mid{w w':World}{base lo:Nat}{vs:List SlN}{os:List (List Int)}(h:Zez w base vs os)(hm:Mid lo w.heap.size w w')(hl:lo<=base):Zez w' base vs os:=⟨h.len,fun i s l h1 h2=>⟨(h.row i s l h1 h2).1,Zbo (h.row i s l h1 h2).2 hm hl⟩⟩
theorem ZcB.mid{w w':World}{base bs lo:Nat}{bt st:Int}{q E:Nat}{bl:List (Int×Int)}{os:List (List Int)}(h:ZcB w base bs bt st q E bl os)(hm:Mid lo w.heap.size w w')(hl:lo<=base):ZcB w' base bs bt st q E bl os:=by
 obtain⟨Ab,cb,Ao,co,vs,h1,h2,h3,h4⟩:=h.ex;exact⟨h.low,Ab,cb,Ao,co,vs,h1.mid hm (YaH hl h.low),Zbo h2 hm hl,Zbo h3 hm hl,h4.mid hm hl⟩
theorem MC.Ok.szle{K:MC}(h:K.Ok){k:Nat}(hk:k<K.n):szN K.l k<=1000:=by
 have hlt:k<K.l.length:=by rw[h.len];exact hk
 have:=h.pos k _ (YaA hlt);unfold szN;rw[YaT,YaA hlt];simp only[Option.getD_some];omega
def Zsh(F:Nat->Prop)(a b:Nat):Nat->Prop:=fun i=>(i<a/\F i)\/(a<=i/\i<b)
theorem Zgj(F:Nat->Prop)(a b:Nat):∀i,i<a->(Zsh F a b i↔F i):=fun i hi=>⟨fun h=>by
 rcases h with h|h
 ·exact h.2
 ·omega,fun h=>.inl ⟨hi,h⟩⟩
theorem Zgk(F:Nat->Prop)(a b:Nat):∀i,a<=i->i<b->Zsh F a b i:=fun i h1 h2=>.inr ⟨h1,h2⟩
def ZwT(F:Nat->Prop)(a:Nat):Nat->Prop:=fun i=>i<a/\F i
theorem Zjx(F:Nat->Prop)(a:Nat):∀i,i<a->(ZwT F a i↔F i):=fun i hi=>⟨fun h=>h.2,fun h=>⟨hi,h⟩⟩
theorem ZnM(F:Nat->Prop)(a:Nat):¬ZwT F a a:=fun h=>Nat.lt_irrefl _ h.1
def Zva(I:InC)(x:Nat)(w:World)(e:Ending)(w':World):Prop:=∃mb,e=.returned (.tuple #[.pointer (some ⟨mb,0,none⟩),.int .i64 0])/\Zaz (fun i=>w.heap.size<=i) w' mb (I.mc x) (ZdD I x)/\Bz0 w w'
theorem ZmF(I:InC)(x:Nat)(w:World)(hI:ZmD w I)(hO:I.Ok)(hx:(x:Int)<I.c.wk) :
  Calls prog 11 #[inV I.A I.n I.cap I.c I.S I.m I.cS I.AP I.P I.cP I.AD I.D I.cD,.int .i64 x] w (Zva I x w):=by
 have hK:=hO.mc hx;have HN:=hid hO.nums;have HO:=hid hO;have HK:=hid hK;have HX:=hid hx;have m60:=hO.m60;have hn16:I.n<=16:=hK.n16;have hP60:=hO.P60;have hD4:=hO.D4;have HCI:=hid (fun W (i:ZmD W I)=>Ze1 I.A I.n I.cap I.l I.c I.S I.m I.cS (Zf5 I.N I.M I.es) I.AP I.P I.cP I.AD I.D I.cD W i.hl i.rl i.cap (by omega) (by rw[ZdC];exact i.el) (by rw[ZnL];exact i.re) (by omega) (by omega) (by omega));have HI:=hid hI;clear hI hO hK hx
 go_enter func11,ntmps11
 go_wp2_with fail;obtain⟨w1,hw1⟩:∃w1,w.alloc (.cells (inC I.A I.n I.cap I.c I.S I.m I.cS I.AP I.P I.cP I.AD I.D I.cD) 29)=w1:=⟨_,rfl⟩;obtain⟨gin,hgin⟩:∃g,w.heap.size=g:=⟨_,rfl⟩;have hb1:Below w.heap.size w w1:=by rw[<-hw1];exact bA0 _
 have hi1:Blk w1 gin 29 (inC I.A I.n I.cap I.c I.S I.m I.cS I.AP I.P I.cP I.AD I.D I.cD):=by rw[<-hw1];exact Blk.new' _ _ hgin
 have HW1:=hid hw1;have HGI:=hid hgin;have HB1:=hid hb1;have HI1:=hid hi1;clear hw1 hgin hb1 hi1;rw[HW1.out,HGI.out];((with_reducible refine(HCI.out w1 (HI.out.below HB1.out)).mono ?_);rintro e w2 ⟨cd,rfl,hcd,hb2⟩);obtain rfl:cd=0:=hcd.2 HO.out.ok;have HB2:=hid (bT0 HB1.out hb2);have HI2:=hid (HI1.out.kept hb2);clear hcd hb2 HCI;obtain⟨c0,c1,c2,c3,c4,c5,c6,c7,c8,c9,c10,c11,c12,c13,c14⟩:=cl15 HI2.out;have cl:=HI2.out.lt;have e1:decide ((x:Int)<0)=false:=YaI (by omega);have e2:decide (I.c.wk<=(x:Int))=false:=YaI (by have:=HX.out;omega);go_wp2_with fail;obtain⟨w3,hw3⟩:∃w3,w2.alloc (.cells (ZfL I.A I.n I.cap I.c) 24)=w3:=⟨_,rfl⟩;obtain⟨gc,hgc⟩:∃g,w2.heap.size=g:=⟨_,rfl⟩;have hb3:Below w2.heap.size w2 w3:=by rw[<-hw3];exact bA0 _
 have hi3:Blk w3 gc 24 (ZfL I.A I.n I.cap I.c):=by rw[<-hw3];exact Blk.new' _ _ hgc
 have HW3:=hid hw3;have HGC:=hid hgc;have HB3:=hid (bT0 HB2.out hb3);have HI3:=hid (HI2.out.kept hb3);have HC3:=hid hi3;clear hw3 hgc hb3 hi3 e1 e2;rw[HW3.out,HGC.out];have hs16:=Zcq HN.out.sz;rw[HO.out.hl] at hs16;((with_reducible refine(ZeH I.A I.n I.cap I.l w3 HO.out.hl (HI.out.rl.below HB3.out) HI.out.cap hs16.1 hs16.2.1 hs16.2.2.1 HN.out.sz).mono ?_);rintro e w4 ⟨bs,rfl,hsh,hb4⟩);have HB4:=hid (bT0 HB3.out hb4);have HI4:=hid (HI3.out.kept hb4);have HC4:=hid (HC3.out.kept hb4);have HSH4:=hid hsh;have HZ34:Hid (w3.heap.size<=w4.heap.size):=hid hb4.size;have HWN:Hid (w.heap.size<=w3.heap.size):=hid HB3.out.size;clear hsh hb4 hs16;have c12:=cv12 HI4.out;have c14:=cv14 HI4.out;have d5:=cv5 HC4.out;have d7:=cv7 HC4.out;have cl:=HI4.out.lt;have dl:=HC4.out.lt;have hba:(I.c.ba.toNat:Int)=I.c.ba:=by have:=HN.out.bw;have:=HN.out.wk;omega
 have hst:(I.c.st.toNat:Int)=I.c.st:=by have:=HN.out.st;omega
 have HSM:Hid (Calls prog 22 #[.int .i64 I.m,.int .i64 I.c.ba,.int .i64 I.c.st,.slice I.AD I.D I.cD] w4 (Zub w4 I.c.ba.toNat I.c.st.toNat I.D I.m (I.m/I.c.ba.toNat) (cnt I.c.st.toNat (I.m/I.c.ba.toNat)) I.L)):=hid (by
  have:=ZoQ I.m I.c.ba.toNat I.c.st.toNat I.D I.cD (I.m/I.c.ba.toNat) (cnt I.c.st.toNat (I.m/I.c.ba.toNat)) I.AD I.L w4 (by have:=HN.out.bw;have:=HN.out.wk;omega) (by have:=HN.out.ba;omega) m60 (by have:=HO.out.st;omega) rfl rfl hD4 HO.out.dl (HI.out.rd.below HB4.out) HO.out.lu;rw[hba,hst] at this;exact this)
 clear hba hst;go_wp2_with fail;((with_reducible refine HSM.out.mono ?_);rintro e w5 ⟨hb5,hsm⟩);have hsm':∃smb,e=.returned (.tuple #[.pointer (some ⟨smb,0,none⟩),.int .i64 0])/\ZcB w5 w4.heap.size smb I.c.ba.toNat I.c.st.toNat (I.m/I.c.ba.toNat) (cnt I.c.st.toNat (I.m/I.c.ba.toNat)) (Zat (I.m/I.c.ba.toNat*I.c.ba.toNat) I.c.ba.toNat) (ZbU I.L I.m (cnt I.c.st.toNat (I.m/I.c.ba.toNat))):=by
  rcases hsm with⟨-,smb,he,hs⟩|⟨hbad,-⟩
  ·exact⟨smb,he,hs⟩
  ·have:=HN.out.need;unfold Zdh at this;omega
 clear hsm;obtain⟨smb,rfl,hsm⟩:=hsm';have HB5:=hid (bT0 HB4.out hb5);have HI5:=hid (HI4.out.kept hb5);have HC5:=hid (HC4.out.kept hb5);have HSM5:=hid hsm;have HB45:=hid hb5;clear hb5 hsm HSM c12 c14 d5 d7 cl dl;obtain⟨d0,d1,d2,d3,d4,d5,d6,d7,d8,d9,d10,d11⟩:=cl12 HC5.out;have dl:=HC5.out.lt;have KS:Zag w5 w5.drew:=Zag.start w5;have hcn:Zbp I.l (I.n-1)=(I.P:Int):=HN.out.cn.symm;have HCO:Hid (∀W,Zag w5 W->Calls prog 43 #[.pointer (some ⟨bs,0,none⟩)] W fun e w'=>e=.returned (.int .i64 I.P)/\W=w'):=hid (fun W kk=>by
  have:=Zbs w3.heap.size bs I.n I.l W ((HSH4.out.below HB45.out).below kk.2.2);rw[hcn] at this;exact this)
 have HPL:=hid (fun W (kk:Zag w5 W)=>Zji I.A I.n I.cap I.l I.c I.P W (pcI I.c I.P) HK.out.pcok HO.out.hl (HI.out.rl.below (bT0 HB5.out kk.2.2)) HI.out.cap (by omega) HN.out.cfg HK.out.fits.wk HK.out.fits.ch HK.out.fits.mi HK.out.fits.wi HK.out.fits.bu rfl);clear hcn;go_wp2_with fail
 go_region_held3 (fun w'=>Zag w5 w') (first|exact k6|exact KS) (first
  | (go_at_call 43;(with_reducible refine(HCO.out _ KS).mono ?_);rintro e w6 ⟨rfl,hw6⟩;subst hw6)
  | (go_at_call 42;(with_reducible refine(HPL.out _ KS).mono ?_);rintro e w6 ⟨plb,rfl,hpl,hb6⟩;have k6:Zag w5 w6:=KS.call hb6;have HK6:=hid k6;have HPL6:=hid hpl;clear hpl hb6))
 have HB6:=hid (bT0 HB5.out HK6.out.2.2);have HI6:=hid (HI5.out.kept HK6.out.2.2);have HC6:=hid (HC5.out.kept HK6.out.2.2);have HB56:=hid HK6.out.2.2;clear k6 KS HCO HPL;have c13:=cv13 HI6.out;have cl:=HI6.out.lt;have HPP:=hid (HI.out.pl);have HSA:=hid (ZkZ I.AP I.P I.cP I.P0 w6 HI.out.pl (HI.out.rp.below HB6.out) (by omega));go_wp2_with fail;((with_reducible refine HSA.out.mono ?_);rintro e w7 ⟨AP,cP,AM,cM,rfl,hp7,hm7,hne7,hb7⟩);obtain⟨gp,rfl⟩:=Zbu hp7 (by have:=HK.out.np1;exact this);obtain⟨gm,rfl⟩:=Zbu hm7 (by have:=HK.out.np1;exact this);have hpm:gp≠gm:=hne7 gp gm rfl rfl;obtain⟨w8,hw8⟩:∃w8,w7.alloc (.cells #[.slice (some ⟨gp,0,none⟩) I.P cP,.slice (some ⟨gm,0,none⟩) I.P cM] 92)=w8:=⟨_,rfl⟩;obtain⟨gs,hgs⟩:∃g,w7.heap.size=g:=⟨_,rfl⟩;have hb8:Below w7.heap.size w7 w8:=by rw[<-hw8];exact bA0 _
 have hs8:Blk w8 gs 92 #[.slice (some ⟨gp,0,none⟩) I.P cP,.slice (some ⟨gm,0,none⟩) I.P cM]:=by rw[<-hw8];exact Blk.new' _ _ hgs
 have hb68:=bT0 hb7 hb8;have HW8:=hid hw8;have HGS:=hid hgs;have HS8:=hid hs8;have HP8:=hid (Zac hp7 hb8);have HQ8:=hid (Zac hm7 hb8);have HPM:=hid hpm;have HB68:=hid hb68;have HB8:=hid (bT0 HB6.out hb68);have HI8:=hid (HI6.out.kept hb68);have HC8:=hid (HC6.out.kept hb68);clear hp7 hm7 hne7 hb7 hpm hw8 hgs hb8 hs8 hb68 c13 cl HSA;go_wp2_with fail;rw[HW8.out,HGS.out];obtain⟨c0,c1,c2,c3,c4,c5,c6,c7,c8,c9,c10,c11,c12,c13,c14⟩:=cl15 HI8.out;have cl:=HI8.out.lt;obtain⟨d0,d1,d2,d3,d4,d5,d6,d7,d8,d9,d10,d11⟩:=cl12 HC8.out;have dl:=HC8.out.lt;have s0:=HS8.out.cell 0;have s1:=HS8.out.cell 1;have sl:=HS8.out.lt;refine Zgu (Zag w8) (fun F=>Zec I x bs smb plb w8.heap.size F (.slice (some ⟨gp,0,none⟩) I.P cP) (.slice (some ⟨gm,0,none⟩) I.P cM)) w8.heap.size (fun i=>w3.heap.size<=i/\i<w6.heap.size) [0,1,2,3,4,5,6,7,9,10,11,13,14,15,16,17,18,19,21,22,25,28,29] [8,12,20,23,24,26,27,30,31] [32,33] (by kernel_rfl) (by kernel_rfl) (Zag.start w8) (fun W h=>h.2.1) Zec.grow ?_;simp only[YaO,YaP,YaB,YaC];refine Zaa (.int .i64 x) rfl (fun W hW=>?_) ?_
 ·obtain⟨hc,-,-⟩:=hW;go_simp
 go_simp;refine Zaa (.pointer (some ⟨gc,4,none⟩)) rfl (fun W hW=>?_) ?_
 ·obtain⟨hc,-,-⟩:=hW;go_simp
 go_simp;refine Zaa (.int .i64 I.c.wk) rfl (fun W hW=>?_) ?_
 ·obtain⟨hc,-,-⟩:=hW;go_simp
 go_simp;refine Zaa (.pointer (some ⟨gc,6,none⟩)) rfl (fun W hW=>?_) ?_
 ·obtain⟨hc,-,-⟩:=hW;go_simp
 go_simp;refine Zaa (.int .i64 I.c.mi) rfl (fun W hW=>?_) ?_
 ·obtain⟨hc,-,-⟩:=hW;go_simp
 go_simp;refine Zaa (.pointer (some ⟨bs,0,none⟩)) rfl (fun W hW=>?_) ?_
 ·obtain⟨hc,-,-⟩:=hW;go_simp
 go_simp;refine Zaa (.pointer (some ⟨gin,12,none⟩)) rfl (fun W hW=>?_) ?_
 ·obtain⟨hc,-,-⟩:=hW;go_simp
 go_simp;refine Zaa (.slice I.S I.m I.cS) rfl (fun W hW=>?_) ?_
 ·obtain⟨hc,-,-⟩:=hW;go_simp
 go_simp;refine Zaa (.pointer (some ⟨smb,0,none⟩)) rfl (fun W hW=>?_) ?_
 ·obtain⟨hc,-,-⟩:=hW;go_simp
 go_simp;refine Zaa (.pointer (some ⟨plb,0,none⟩)) rfl (fun W hW=>?_) ?_
 ·obtain⟨hc,-,-⟩:=hW;go_simp
 go_simp;refine Zaa (.pointer (some ⟨plb,0,none⟩)) rfl (fun W hW=>?_) ?_
 ·obtain⟨hc,-,-⟩:=hW;go_simp
 go_simp;refine Zaa (.pointer (some ⟨gc,2,none⟩)) rfl (fun W hW=>?_) ?_
 ·obtain⟨hc,-,-⟩:=hW;go_simp
 go_simp;refine Zaa (.int .i64 I.c.ra) rfl (fun W hW=>?_) ?_
 ·obtain⟨hc,-,-⟩:=hW;go_simp
 go_simp;refine Zaa (.pointer (some ⟨gc,3,none⟩)) rfl (fun W hW=>?_) ?_
 ·obtain⟨hc,-,-⟩:=hW;go_simp
 go_simp;refine Zaa (.int .i64 I.c.mo) rfl (fun W hW=>?_) ?_
 ·obtain⟨hc,-,-⟩:=hW;go_simp
 go_simp;refine Zaa (.pointer (some ⟨gc,1,none⟩)) rfl (fun W hW=>?_) ?_
 ·obtain⟨hc,-,-⟩:=hW;go_simp
 go_simp;refine Zaa (.int .i64 I.c.sh) rfl (fun W hW=>?_) ?_
 ·obtain⟨hc,-,-⟩:=hW;go_simp
 go_simp;refine Zaa (.agg #[.int .i64 I.c.ra,.int .i64 I.c.mo,.int .i64 I.c.sh]) rfl (fun W hW=>?_) ?_
 ·obtain⟨hc,-,-⟩:=hW;go_simp
 go_simp;refine Zaa (.agg #[.slice (some ⟨gp,0,none⟩) I.P cP,.slice (some ⟨gm,0,none⟩) I.P cM]) rfl (fun W hW=>?_) ?_
 ·obtain⟨hc,-,-⟩:=hW;go_simp
 go_simp;refine Zaa (.pointer (some ⟨bs,0,none⟩)) rfl (fun W hW=>?_) ?_
 ·obtain⟨hc,-,-⟩:=hW;go_simp
 go_simp;refine Zaa (.agg #[.slice (some ⟨gp,0,none⟩) I.P cP,.slice (some ⟨gm,0,none⟩) I.P cM]) rfl (fun W hW=>?_) ?_
 ·obtain⟨hc,-,-⟩:=hW;go_simp
 go_simp;refine Zaa (.pointer (some ⟨plb,0,none⟩)) rfl (fun W hW=>?_) ?_
 ·obtain⟨hc,-,-⟩:=hW;go_simp
 go_simp;refine Zaa (.int .i64 x) rfl (fun W hW=>?_) ?_
 ·obtain⟨hc,-,-⟩:=hW;go_simp
 go_simp;clear s0 s1 sl;refine ZpE.mk ?_ ?_
 ·intro j8 hj8 o ho8 vs F W hS hV;simp only[List.mem_cons,List.not_mem_nil,or_false] at hj8;have HS:=hid hS;have HV:=hid hV;have HBW:Hid (Below w.heap.size w W):=hid (bT0 HB8.out hS.2.2);have HPLW:Hid (Zdx W plb (I.mc x).pc I.c I.A I.n I.cap):=hid ((HPL6.out.plan.kept HB68.out).kept hS.2.2);clear hS hV
  rcases hj8 with rfl|rfl|rfl|rfl|rfl|rfl|rfl|rfl|rfl
  ·-- the examples
   cases ho8
   unfold Zgs;simp only[ZaL,ZaT,YaD,YaB,YaC,YaE];change wpList _ _ _ (_::[]) _ _;go_wp2_with fail;((with_reducible refine(Zjj I.S I.m I.cS I.N I.M I.es I.f W HO.out.el (by omega) (HI.out.re.below HBW.out) (HI.out.rs.below HBW.out) (by rw[HO.out.hN];have:=HK.out.szle (show 0<(I.mc x).n by have:=HK.out.n2;omega);exact YaH this (by omega)) (by rw[HO.out.hM];have:=HK.out.szle (show (I.mc x).n-1<(I.mc x).n by have:=HK.out.n2;omega);exact YaH this (by omega)) HO.out.fl).mono ?_);rintro e w9 ⟨S9,c9,l9,hl9,rfl,ho9,hs9,hb9⟩);have HB9:=hid hb9;have H9:=hid (show X8 I (Zsh F W.heap.size w9.heap.size) w9 S9 c9 l9 from⟨hl9,Hg.of_mid (lo:=W.heap.size) (fun w' hm=>⟨Zae (Zbo ho9 hm (YaF _)) (Nat.zero_le _),(hs9.mid hm (YaF _)).base (Nat.zero_le _)⟩) (Zgk F _ _)⟩);clear hl9 ho9 hs9 hb9;go_wp2_with fail;exact⟨HS.out.call HB9.out,HB9.out,Zsh F W.heap.size w9.heap.size,Zgj _ _ _,Zec.mk8 H9.out⟩
  ·-- the buckets
   cases ho8
   unfold Zgs;simp only[ZaL,ZaT,YaD,YaB,YaC,YaE];change wpList _ _ _ (_::[]) _ _;go_wp2_with fail;((with_reducible refine(ZgS (I.mc x).pc I.c I.A I.n I.cap plb W HK.out.pcok HPLW.out).mono ?_);rintro e w9 ⟨A9,c9,rfl,ho9,hb9⟩);have HB9:=hid hb9;have H9:=hid (show X12 I x (Zsh F W.heap.size w9.heap.size) w9 A9 c9 from Hg.of_mid (lo:=W.heap.size) (fun w' hm=>Zae (Zbo ho9 hm (YaF _)) (Nat.zero_le _)) (Zgk F _ _));clear ho9 hb9;go_wp2_with fail;exact⟨HS.out.call HB9.out,HB9.out,Zsh F W.heap.size w9.heap.size,Zgj _ _ _,Zec.mk12 H9.out⟩
  ·-- the setting
   obtain⟨S8,c8,l8,v8,x8⟩:=(HV.out 8 (by simp) (by kernel_rfl)).1 rfl;obtain⟨A8,d8,v12,x12⟩:=(HV.out 12 (by simp) (by kernel_rfl)).2.1 rfl;have X8':=hid x8;have X12':=hid x12;clear x8 x12
   cases ho8
   unfold Zgs;simp only[ZaL,ZaT,YaD,YaB,YaC,YaE];rw[v8,v12];change wpList _ _ _ (_::[]) _ _;go_wp2_with fail;exact⟨HS.out,bR0 _ _,F,fun _ _=>Iff.rfl,Zec.mk20 X8'.out X12'.out⟩
  ·-- the count
   have hcn:Zbp I.l (I.n-1)=(I.P:Int):=HN.out.cn.symm;have HCO:Hid (Calls prog 43 #[.pointer (some ⟨bs,0,none⟩)] W fun e w'=>e=.returned (.int .i64 I.P)/\W=w'):=hid (by
    have:=Zbs w3.heap.size bs I.n I.l W ((((HSH4.out.below HB45.out).below HB56.out).below HB68.out).below HS.out.2.2);rw[hcn] at this;exact this)
   clear hcn
   cases ho8
   unfold Zgs;simp only[ZaL,ZaT,YaD,YaB,YaC,YaE];change wpList _ _ _ (_::[]) _ _;go_wp2_with fail;((with_reducible refine HCO.out.mono ?_);rintro e w9 ⟨rfl,hw9⟩);subst hw9;go_wp2_with fail;exact⟨HS.out,bR0 _ _,F,fun _ _=>Iff.rfl,Zec.mk23⟩
  ·-- the gradient
   have v23:=(HV.out 23 (by simp) (by kernel_rfl)).2.2.2.1 rfl;have hmk:=fun W=>run_make_row' (P:=prog) 74 2 (.int .i64 0) 8 underlying74 Zhy.info rfl .i64 .i64 I.P (by omega) (by omega) W
   cases ho8
   unfold Zgs;simp only[ZaL,ZaT,YaD,YaB,YaC,YaE];rw[v23];change wpList _ _ _ (_::[]) _ _;go_wp2_with fail;exact⟨HS.out.alloc _,bA0 _,ZwT F W.heap.size,Zjx _ _,Zec.mk24 ⟨HS.out.2.1,ZnM _ _,Zgf W I.P _ 0 2 rfl (Nat.zero_le _) (by omega)⟩⟩
  ·-- the state's copy
   have HCL:=hid (Zdy (some ⟨gp,0,none⟩) (some ⟨gm,0,none⟩) I.P I.P cP cM I.P0 (Zas I.P) W HI.out.pl (by simp[Zas]) (Rd.of_own (Zac HP8.out HS.out.2.2)) (Rd.of_own (Zac HQ8.out HS.out.2.2)) (by omega) (by omega))
   cases ho8
   unfold Zgs;simp only[ZaL,ZaT,YaD,YaB,YaC,YaE];change wpList _ _ _ (_::[]) _ _;go_wp2_with fail;((with_reducible refine HCL.out.mono ?_);rintro e w9 ⟨A9,c9,A10,c10,rfl,hp9,hq9,hpq9,hb9⟩);have HB9:=hid hb9;have H9:=hid (show X26 I (Zsh F W.heap.size w9.heap.size) w9 (A9,c9,A10,c10) from Hg.of_mid (lo:=W.heap.size) (fun w' hm i y hy=>by
    have hi:i<[((A9,c9,A10,c10):StS)].length:=(YaG.1 hy).1;obtain rfl:i=0:=by simpa using hi
    simp at hy;subst hy;exact⟨Zae (Zbo hp9 hm (YaF _)) (Nat.zero_le _),Zae (Zbo hq9 hm (YaF _)) (Nat.zero_le _)⟩) (Zgk F _ _))
   clear hp9 hq9 hpq9 hb9;go_wp2_with fail;exact⟨HS.out.call HB9.out,HB9.out,Zsh F W.heap.size w9.heap.size,Zgj _ _ _,Zec.mk26 H9.out⟩
  ·-- what is recorded
   obtain⟨y,v26,x26⟩:=(HV.out 26 (by simp) (by kernel_rfl)).2.2.2.2.2.1 rfl;have X26':=hid x26;clear x26
   cases ho8
   unfold Zgs;simp only[ZaL,ZaT,YaD,YaB,YaC,YaE];rw[v26];change wpList _ _ _ (_::[]) _ _;go_wp2_with fail;exact⟨HS.out.alloc _,bA0 _,ZwT F W.heap.size,Zjx _ _,Zec.mk27 ⟨HS.out.2.1,ZnM _ _,Zik (Blk.new W 92 #[.slice y.1 I.P y.2.1,.slice y.2.2.1 I.P y.2.2.2]) (Nat.zero_le _) rfl (by unfold maxLen;omega)⟩ (X26'.out.grow (bA0 _) (Zjx _ _))⟩
  ·-- the items
   have HST:=hid (ZfR (I.mc x).pc I.c I.A I.n I.cap plb x 0 W HK.out.pcok HK.out.fits HPLW.out);have e0:(I.mc x).pc.stepI I.c.st x 0=I.its x:=by rw[show I.c.st=((I.mc x).st:Int) from HK.out.st];rfl
   rw[e0] at HST;clear e0
   cases ho8
   unfold Zgs;simp only[ZaL,ZaT,YaD,YaB,YaC,YaE];change wpList _ _ _ (_::[]) _ _;go_wp2_with fail;((with_reducible refine HST.out.mono ?_);rintro e w9 ⟨A9,c9,rfl,ho9,hb9⟩);have HB9:=hid hb9;have H9:=hid (show X30 I x (Zsh F W.heap.size w9.heap.size) w9 A9 c9 from Hg.of_mid (lo:=W.heap.size) (fun w' hm=>Zae (Zbo ho9 hm (YaF _)) (Nat.zero_le _)) (Zgk F _ _));clear ho9 hb9;go_wp2_with fail;exact⟨HS.out.call HB9.out,HB9.out,Zsh F W.heap.size w9.heap.size,Zgj _ _ _,Zec.mk30 H9.out⟩
  ·-- the worker
   obtain⟨S8,c8,l8,A8,d8,v20,x8,x12⟩:=(HV.out 20 (by simp) (by kernel_rfl)).2.2.1 rfl;obtain⟨g24,v24,x24⟩:=(HV.out 24 (by simp) (by kernel_rfl)).2.2.2.2.1 rfl;obtain⟨g27,y,v27,x27,x26⟩:=(HV.out 27 (by simp) (by kernel_rfl)).2.2.2.2.2.2.1 rfl;obtain⟨AI,cI,v30,x30⟩:=(HV.out 30 (by simp) (by kernel_rfl)).2.2.2.2.2.2.2.1 rfl;have X8':=hid x8;have X12':=hid x12;have X24':=hid x24;have X26':=hid x26;have X27':=hid x27;have X30':=hid x30;clear x8 x12 x24 x26 x27 x30
   cases ho8
   unfold Zgs;simp only[ZaL,ZaT,YaD,YaB,YaC,YaE];rw[v20,v24,v27,v30];change wpList _ _ _ (_::[]) _ _;go_wp2_with fail;exact⟨HS.out,bR0 _ _,F,fun _ _=>Iff.rfl,Zec.mk31 X8'.out X12'.out X24'.out X26'.out X27'.out X30'.out⟩
 ·intro vs F W hS hF hV;obtain⟨S8,c8,l8,A8,d8,g24,g27,y,AI,cI,v31,x8,x12,x24,x26,x27,x30⟩:=(hV 31 (by simp)).2.2.2.2.2.2.2.2 rfl;simp only[ZaL,ZaT,YaO,YaP,YaD,YaB,YaC,YaE];rw[v31];have HS:=hid hS;have X8':=hid x8;have X12':=hid x12;have X24':=hid x24;have X26':=hid x26;have X27':=hid x27;have X30':=hid x30;have HFF:=hid hF;clear hS hF hV x8 x12 x24 x26 x27 x30;change wpList _ _ _ (_::_::[]) _ _;go_wp2_with fail;refine NoPanic.normal ?_;go_wp2_with fail
  go_ret2
  refine⟨W.heap.size,rfl,?_,(bT0 HB8.out HS.out.2.2).alloc (YaH HB8.out.size HS.out.2.1) _⟩;have hz45:=HB45.out.size;have hz56:=HB56.out.size;have hz68:=HB68.out.size;have hz34:=HZ34.out;have g1:Hg (fun i=>w3.heap.size<=i/\i<w6.heap.size) w8 (fun W=>ZaC W w3.heap.size bs I.l I.n):=
   (((Hg.of_mid (lo:=w3.heap.size) (fun w' hm=>HSH4.out.mid hm (YaF _)) (fun i a b=>⟨a,by omega⟩)).below HB45.out).below HB56.out).below HB68.out
  have g2:Hg (fun i=>w3.heap.size<=i/\i<w6.heap.size) w8 (fun W=>ZcB W 0 smb I.c.ba.toNat I.c.st.toNat (I.m/I.c.ba.toNat) (cnt I.c.st.toNat (I.m/I.c.ba.toNat)) (Zat (I.m/I.c.ba.toNat*I.c.ba.toNat) I.c.ba.toNat) (ZbU I.L I.m (cnt I.c.st.toNat (I.m/I.c.ba.toNat)))):=
   ((Hg.of_mid (lo:=w4.heap.size) (fun w' hm=>(HSM5.out.mid hm (YaF _)).base (Nat.zero_le _)) (fun i a b=>⟨by omega,by omega⟩)).below HB56.out).below HB68.out
  have g3:Hg (fun i=>w3.heap.size<=i/\i<w6.heap.size) w8 (fun W=>Zdx W plb (I.mc x).pc I.c I.A I.n I.cap):=
   (Hg.of_mid (lo:=w5.heap.size) (fun w' hm=>(HPL6.out.mid hm (YaF _)).plan) (fun i a b=>⟨by omega,b⟩)).below HB68.out
  exact(Ztk (lo:=w3.heap.size) (hi:=w6.heap.size) HK.out HO.out g1 g2 g3 hz68 (by omega) HFF.out HS.out.2.2 HP8.out HQ8.out HPM.out X8'.out X12'.out X24'.out X26'.out X27'.out X30'.out).mono (fun i _ h=>YaH HWN.out h)
abbrev fnV(f:FuncId):Value:=.func (.func f) #[] #[]
abbrev ZgT:Array Value:=#[.nilFunc,fnV 231,fnV 232,fnV 233,fnV 234,fnV 235,fnV 236]
theorem Zq8(w:World):Calls prog 191 #[] w fun e w'=>e=.returned (.agg ZgT)/\Bz0 w w':=by
 go_enter func191,ntmps191
 go_wp2_with fail;exact bodyPost_ret (v:=.agg ZgT) (by simp[results,results191,go_sem]) rfl ⟨rfl,bA0 _⟩
theorem Zq9{w:World}{base n k c:Nat}{A:Option Addr}{e:TypeId}{l:List ZaH}{x:ZaH}(h:w.ownsRow base e 12 (.slice A n c) n (ZaJ l))(hx:l[k]?=some x)(hk:k<n) :
  ∃b,A=some ⟨b,0,none⟩/\b<w.heap.size/\∀j,j<12->w.cell? ⟨b,k*12+j,none⟩=(ZfY x)[j]?:=by
 have hr:=Rd.of_own h;obtain⟨b,o,e',hlt,hc⟩:=hr.2 (by omega);obtain⟨A',cap',hv,_,_,hg⟩:=ZaF h;injection hv with hA _ _
 obtain⟨g,hg1,_,_⟩:=hg (by omega);rw[hA,hg1] at e';injection e' with e'
 injection e' with e1 e2
 subst e1 e2;refine⟨g,by rw[hA,hg1],hlt,fun j hj=>?_⟩;have h2:(ZaJ l)[k*12+j]?=(ZfY x)[j]?:=Zkp ZfY 12 (fun _=>rfl) l k j x hj hx;have hj':j<(ZfY x).length:=hj;rw[YaA hj'] at h2 ⊢;have:=hc _ _ h2
 rwa [Nat.zero_add] at this
abbrev ZnN:Array Value:=Zea 0 0 0 false false 0 0 0 0 0 0 0
theorem Ze2(F:Nat->Prop)(mb:Nat)(K:MC)(s:MS)(a:MA)(k1 t u:Int)(sd ad:Bool)(j1 j2 j3 j4 j5 j6 j7:Int)(w:World)(h:ZaQ F w mb K s a)(hx:s.its[s.nx]?=some ((k1,t,u),((sd,ad),(j1,j2,j3,j4,j5),(j6,j7)))) :
  Calls prog 127 #[.pointer (some ⟨mb,0,none⟩)] w fun e w'=>e=.returned (.tuple #[.agg (Zea k1 t u sd ad j1 j2 j3 j4 j5 j6 j7),.bool true])/\Bz0 w w':=by
 obtain⟨hlt,-⟩:=YaG.1 hx;have hil:=h.il;have m16:w.cell? ⟨mb,16,none⟩=some (.int .i64 s.nx):=h.blk.cell 16;have hb:∃gI,a.AI=some ⟨gI,0,none⟩/\gI<w.heap.size/\∀j,j<12->w.cell? ⟨gI,s.nx*12+j,none⟩=(ZfY ((k1,t,u),((sd,ad),(j1,j2,j3,j4,j5),(j6,j7))))[j]?:=Zq9 h.fz.here.its hx hlt;obtain⟨gI,hAI,lI,hc⟩:=hb;have m15:w.cell? ⟨mb,15,none⟩=some (.slice (some ⟨gI,0,none⟩) s.its.length a.cI):=by rw[<-hAI];exact h.blk.cell 15
 have ml:=h.blk.lt;obtain⟨nx,hnx⟩:∃n,s.nx=n:=⟨_,rfl⟩;obtain⟨n,hn⟩:∃n,s.its.length=n:=⟨_,rfl⟩;rw[hnx] at hlt hc m16;rw[hn] at hlt m15;have q0:w.cell? ⟨gI,nx*12,none⟩=some (.int .i64 k1):=hc 0 (by omega);have q1:w.cell? ⟨gI,nx*12+1,none⟩=some (.int .i64 t):=hc 1 (by omega);have q2:w.cell? ⟨gI,nx*12+2,none⟩=some (.int .i64 u):=hc 2 (by omega);have q3:w.cell? ⟨gI,nx*12+3,none⟩=some (.bool sd):=hc 3 (by omega);have q4:w.cell? ⟨gI,nx*12+4,none⟩=some (.bool ad):=hc 4 (by omega);have q5:w.cell? ⟨gI,nx*12+5,none⟩=some (.int .i64 j1):=hc 5 (by omega);have q6:w.cell? ⟨gI,nx*12+6,none⟩=some (.int .i64 j2):=hc 6 (by omega);have q7:w.cell? ⟨gI,nx*12+7,none⟩=some (.int .i64 j3):=hc 7 (by omega);have q8:w.cell? ⟨gI,nx*12+8,none⟩=some (.int .i64 j4):=hc 8 (by omega);have q9:w.cell? ⟨gI,nx*12+9,none⟩=some (.int .i64 j5):=hc 9 (by omega);have q10:w.cell? ⟨gI,nx*12+10,none⟩=some (.int .i64 j6):=hc 10 (by omega);have q11:w.cell? ⟨gI,nx*12+11,none⟩=some (.int .i64 j7):=hc 11 (by omega);have i1:(0:Int)<=(nx:Int):=by omega
 have i2:(nx:Int)<(n:Int):=by omega
 have e1:decide ((n:Int)<=(nx:Int))=false:=YaI (by omega);clear h hx hc hAI hnx hn hil
 go_enter func127,ntmps127
 go_wp2_with fail;go_region;go_wp2_with fail;go_region;go_wp2_with fail;exact bodyPost_ret (v:=.tuple #[.agg (Zea k1 t u sd ad j1 j2 j3 j4 j5 j6 j7),.bool true]) (by simp[results,results127,go_sem]) rfl ⟨rfl,(bA0 _).drew.drew⟩
theorem Ze3(F:Nat->Prop)(mb:Nat)(K:MC)(s:MS)(a:MA)(w:World)(h:ZaQ F w mb K s a)(hx:s.its.length<=s.nx) :
  Calls prog 127 #[.pointer (some ⟨mb,0,none⟩)] w fun e w'=>e=.returned (.tuple #[.agg ZnN,.bool false])/\Bz0 w w':=by
 have m16:w.cell? ⟨mb,16,none⟩=some (.int .i64 s.nx):=h.blk.cell 16;have m15:w.cell? ⟨mb,15,none⟩=some (.slice a.AI s.its.length a.cI):=h.blk.cell 15;have ml:=h.blk.lt;obtain⟨nx,hnx⟩:∃n,s.nx=n:=⟨_,rfl⟩;obtain⟨n,hn⟩:∃n,s.its.length=n:=⟨_,rfl⟩;rw[hnx] at hx m16;rw[hn] at hx m15;have e1:decide ((n:Int)<=(nx:Int))=true:=YaJ (by omega);have e2:decide (n<=nx)=true:=YaJ hx;clear h hx hnx hn
 go_enter func127,ntmps127
 go_wp2_with fail;go_region;go_wp2_with fail;exact bodyPost_ret (v:=.tuple #[.agg ZnN,.bool false]) (by simp[results,results127,go_sem]) rfl ⟨rfl,(bA0 _).drew⟩
