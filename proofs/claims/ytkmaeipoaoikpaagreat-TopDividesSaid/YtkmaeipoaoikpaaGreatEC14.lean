/- Lemmas. -/
import Derived.Test.YtkmaeipoaoikpaaGreatEC13
namespace Go.Proofs.YtkmaeipoaoikpaaGreat
set_option linter.all false
set_option maxRecDepth 100000
set_option maxHeartbeats 4000000
open Lib (hid)
open Go.RowKit
open Tryz
def Zdg(n:Nat):List Int:=(List.range n).map fun j:Nat=>(j:Int)
theorem ZkL(n:Nat):(Zdg n).length=n:=by simp[Zdg]
theorem ZoO(n:Nat):Zdg (n+1)=Zdg n++[(n:Int)]:=by simp[Zdg,List.range_succ]
theorem ZfO(n:Nat):iv (Zdg (n+1))=iv (Zdg n)++[.int .i64 n]:=by rw[ZoO,Zbq];rfl
theorem ZkM(n:Nat)(w:World)(hn:n<=1000000) :
  Calls prog 164 #[.int .i64 n] w (Zal w 3 1 n (iv (Zdg n))):=by
 go_enter func164,ntmps164
 go_wp2_with fail
 go_loopw [3,6] (fun v c wr=>∃j:Nat,j<=n/\c=.int .i64 j/\(∃A' c',v=.slice A' j c')/\wr.ownsRow w.heap.size 3 1 v j (iv (Zdg j))/\Bz0 w wr) (fun _ c _=>n-(intOf c).toNat)
 case atStart=>exact⟨0,by omega,rfl,⟨none,0,rfl⟩,by simpa [iv,Zdg] using World.ownsRow_nil _ _ _ _,bR0 _ _⟩
 case round=>
  obtain⟨j,hj,rfl,⟨A',c',rfl⟩,hown,hb⟩:=hrel
  by_cases hlt:j<n
  ·have hsz:=hb.size;have HO:=hid hown;have HB:=hid hb;have HT:=hid (ZfO j);clear hown hb
   go_wp2_with (at_builtin;go_must (refine Zav Zhr rfl _ _ rfl w.heap.size _ j (iv (Zdg j)) rfl HO.out #[.int .i64 j] _ rfl rfl rfl (ZeW _) (by unfold maxLen;omega) (by omega) hsz ?_);intro A2 c2 w2 hown2 hb2)
   go_roundw
   case rel=>exact⟨j+1,by omega,by go_num,⟨A2,c2,rfl⟩,by rw[HT.out];exact hown2,HB.out.trans hb2⟩
   case measure=>simp[intOf];omega
  ·obtain rfl:j=n:=by omega
   go_wp2;go_ret;exact⟨A',c',rfl,hown,hb⟩
def ZhG(l:List Int)(i j:Nat):List Int:=(l.set i (l.getD j 0)).set j (l.getD i 0)
theorem ZkN(l:List Int)(i j:Nat):(ZhG l i j).length=l.length:=by simp[ZhG]
theorem Zit{w:World}{base:Nat}{e:TypeId}{g n cap:Nat}{l:List Int}(h:w.ownsRow base e 1 (.slice (some ⟨g,0,none⟩) n cap) n (iv l))(k j:Nat)(x y:Int) :
  (((w.setCell ⟨g,k,none⟩ (.int .i64 x)).setCell ⟨g,j,none⟩ (.int .i64 y))).ownsRow base e 1 (.slice (some ⟨g,0,none⟩) n cap) n (iv ((l.set k x).set j y)) /\
  w.grownBy ((w.setCell ⟨g,k,none⟩ (.int .i64 x)).setCell ⟨g,j,none⟩ (.int .i64 y)) (some g):=by
 obtain⟨s1,g1⟩:=h.stored k (.int .i64 x);obtain⟨s2,g2⟩:=s1.stored j (.int .i64 y);rw[<-Zcs,<-Zcs];exact⟨s2,g1.trans g2⟩
theorem Zte(gh g n c base i j:Nat)(l:List Int)(w:World)(hl:l.length=n)(hn:n<=1000000)(hi:i<n)(hj:j<n)(hh:Blk w gh 22 #[.slice (some ⟨g,0,none⟩) n c])(hne:gh≠g)(hown:w.ownsRow base 3 1 (.slice (some ⟨g,0,none⟩) n c) n (iv l)) :
  Calls prog 165 #[.int .i64 i,.int .i64 j,.pointer (some ⟨gh,0,none⟩)] w fun e w'=>e=.returned (.tuple #[])/\w'.ownsRow base 3 1 (.slice (some ⟨g,0,none⟩) n c) n (iv (ZhG l i j))/\w.grownBy w' (some g):=by
 have h0:w.cell? ⟨gh,0,none⟩=some (.slice (some ⟨g,0,none⟩) n c):=hh.cell 0;obtain⟨x,hx⟩:∃x,l[i]?=some x:=⟨_,YaA (by omega)⟩;obtain⟨y,hy⟩:∃y,l[j]?=some y:=⟨_,YaA (by omega)⟩;have c1:w.cell? ⟨g,i,none⟩=some (.int .i64 x):=(hown.cellAt i (by omega)).trans (by rw[iv,YaR,hx];rfl);have c2:w.cell? ⟨g,j,none⟩=some (.int .i64 y):=(hown.cellAt j (by omega)).trans (by rw[iv,YaR,hy];rfl);have f1:=hown.frozenAt i;have f2:=hown.frozenAt j;have lh:=hh.lt;have HO:=hid hown;have i1:(0:Int)<=(i:Int):=by omega
 have i2:(i:Int)<(n:Int):=by omega
 have i3:(0:Int)<=(j:Int):=by omega
 have i4:(j:Int)<(n:Int):=by omega
 have HE:Hid (ZhG l i j=(l.set i y).set j x):=hid (by simp[ZhG,List.getD,hx,hy]);clear hh hown hl hx hy
 by_cases e:i=j
 ·subst e;obtain rfl:x=y:=by rw[c1] at c2;injection c2 with e;injection e
  go_enter func165,ntmps165
  go_wp2_with fail;go_region;go_wp2
  go_end0
  rw[HE.out];have h:=Zit HO.out i i x x;exact⟨rfl,h.1,h.2.os,h.2.tape,h.2.output,h.2.size,h.2.block⟩
 ·go_enter func165,ntmps165
  go_wp2_with fail;go_region;go_wp2
  go_end0
  rw[HE.out];have h:=Zit HO.out i j y x;exact⟨rfl,h.1,h.2.os,h.2.tape,h.2.output,h.2.size,h.2.block⟩
def Zcp(n k:Nat):List Int:=(List.range k).map fun j:Nat=>(n:Int)-(j:Int)
theorem Zb5(n k:Nat):(Zcp n k).length=k:=by simp[Zcp]
theorem ZeY(n k j:Nat)(h:j<k):(Zcp n k)[j]?=some ((n:Int)-(j:Int)):=by simp[Zcp,h]
theorem ZfP(n k:Nat)(m:Int)(h:(n:Int)-(k:Int)=m):iv (Zcp n (k+1))=iv (Zcp n k)++[.int .i64 m]:=by
 subst h;simp[Zcp,List.range_succ,iv]
theorem Ztf(n k:Nat)(h:k<=n):Zd9 (Zcp n k)=false:=by
 refine ZnG (Zb5 n k) (fun j x hj hx=>?_);rw[ZeY n k j hj] at hx;injection hx with hx
 omega
def ZbG(n:Nat)(ds:List Int):Nat->List Int
 |0=>Zdg n
 |k+1=>ZhG (ZbG n ds k) (n-1-k) (ds.getD k 0).toNat
theorem Za3(n:Nat)(ds:List Int):∀k,(ZbG n ds k).length=n
 |0=>ZkL n
 |k+1=>by rw[ZbG,ZkN,Za3 n ds k]
def ZkO(L:List Int)(n s:Nat):List Int:=ZbG n (Zfv L s (Zcp n (n-1))) (n-1)
theorem Zbw(L:List Int)(n s:Nat):(ZkO L n s).length=n:=Za3 _ _ _
abbrev ZqY(bt st:Int)(Ab:Option Addr)(q cb:Nat)(Ao:Option Addr)(E co:Nat):Array Value:=#[.int .i64 bt,.int .i64 st,.slice Ab q cb,.slice Ao E co]
theorem ZnH{w:World}{g:Nat}{t:TypeId}{x y z u:Value}(h:Blk w g t #[x,y,z,u])(v:Value) :
  w.grownBy (w.setCell ⟨g,3,none⟩ v) (some g)/\Blk (w.setCell ⟨g,3,none⟩ v) g t #[x,y,z,v]:=
 ⟨Zak (p:=⟨g,3,none⟩) (World.grownBy.refl w _) (.inl rfl) v,by simpa using h.set_ 3 v⟩
section
variable(gn gst gs b bs N cap n s E co cb q base:Nat)(A Ao Ab:Option Addr)(bt st:Int)(L:List Int)(vs:List SlN)(w:World)
theorem ZgO(ok:Bool)(R:SlN->World->Prop)(h1:Blk w gn 3 #[.int .i64 n])(h2:Blk w gst 187 #[.pointer (some ⟨b,0,none⟩)])
  (h3:Blk w gs 71 #[.pointer (some ⟨bs,0,none⟩)]) (h4:Blk w bs 186 (ZqY bt st Ab q cb Ao E co)) (ho:w.ownsRow base 22 1 (.slice Ao E co) E (ZlD vs))
  (hbb:Blk w b 299 #[.slice A N cap,.int .i64 s]) (hE:E<=1000) (hbase:base<=w.heap.size)
  (hC:Calls prog 80 #[.int .i64 n,.pointer (some ⟨b,0,none⟩)] w fun e w'=>∃sl:SlN,e=.returned (.tuple #[.slice sl.1 sl.2.1 sl.2.2,.bool ok])/\R sl w'/\w.grownBy w' (some b)) :
  Calls prog 79 #[.pointer (some ⟨gn,0,none⟩),.pointer (some ⟨gst,0,none⟩),.pointer (some ⟨gs,0,none⟩)] w fun e w'=>e=.returned (.bool ok)/\∃(w1:World) (sl:SlN) (Ao':Option Addr) (co':Nat),R sl w1/\w.grownBy w1 (some b) /\
   Blk w' bs 186 (ZqY bt st Ab q cb Ao' (E+1) co')/\w'.ownsRow base 22 1 (.slice Ao' (E+1) co') (E+1) (ZlD (vs++[sl]))/\But (fun g=>g=bs\/(Value.slice Ao E co).ownBlock=some g) w1 w':=by
 have C:=hid hC;have nb1:gn≠b:=h1.ne_ hbb (by decide);have nb2:gst≠b:=h2.ne_ hbb (by decide);have nb3:gs≠b:=h3.ne_ hbb (by decide);have nb4:bs≠b:=h4.ne_ hbb (by decide);have c1:=h1.cell 0;have c2:=h2.cell 0;have l1:=h1.lt;have l2:=h2.lt;have l3:=h3.lt;have l4:=h4.lt;have H3:=hid h3;have H4:=hid h4;have HO:=hid ho;have HS:=hid hbb;clear h1 h2 h3 h4 ho hbb hC
 go_enter func79,ntmps79
 go_wp2_with fail;((with_reducible refine C.out.mono ?_);rintro e w1 ⟨⟨A1,n1,d1⟩,rfl,hR,hg1⟩);have H31:=H3.out.grown hg1 (by simpa using nb3);have H41:=H4.out.grown hg1 (by simpa using nb4);have hown1:=HO.out.kept hg1 (.inr (Zab HO.out HS.out (by decide)));have HO1:Hid (w1.drew.ownsRow base 22 1 (.slice Ao E co) E (ZlD vs)):=hid hown1;have HG:=hid hg1;have HRR:=hid hR;have hsz:base<=w1.heap.size:=YaH hbase hg1.size;have r1:w1.cell? ⟨gs,0,none⟩=some (.pointer (some ⟨bs,0,none⟩)):=H31.cell 0;have r2:w1.cell? ⟨bs,3,none⟩=some (.slice Ao E co):=H41.cell 3;have HH4:Hid (Blk w1.drew bs 186 (ZqY bt st Ab q cb Ao E co)):=hid H41.drew;have HH3:Hid (Blk w1.drew gs 71 #[.pointer (some ⟨bs,0,none⟩)]):=hid H31.drew;have hS:(fun W:World=>W.cell? ⟨gs,0,none⟩=some (.pointer (some ⟨bs,0,none⟩))/\W.cell? ⟨bs,3,none⟩=some (.slice Ao E co)) w1.drew:=⟨r1,r2⟩;have HSN:=hid (ZkJ vs (A1,n1,d1));clear hg1 H31 H41 c1 c2 hown1 hR l1 l2 l3 l4;go_wp2_with fail;refine Zad (fun W:World=>W.cell? ⟨gs,0,none⟩=some (.pointer (some ⟨bs,0,none⟩))/\W.cell? ⟨bs,3,none⟩=some (.slice Ao E co)) [0,1,2,3,4,5] [6,7] [8,9,10] (by kernel_rfl) (by kernel_rfl) hS ?_;clear hS r1 r2;simp only[YaO,YaP,YaB,YaC];refine Zaa (.pointer (some ⟨bs,0,none⟩)) rfl (fun W hW=>?_) ?_
 ·obtain⟨hc,hc'⟩:=hW;go_simp
 go_simp;refine Zaa (.pointer (some ⟨bs,0,none⟩)) rfl (fun W hW=>?_) ?_
 ·obtain⟨hc,hc'⟩:=hW;go_simp
 go_simp;refine Zaa (.pointer (some ⟨bs,0,none⟩)) rfl (fun W hW=>?_) ?_
 ·go_simp
 go_simp;refine Zaa (.pointer (some ⟨bs,3,none⟩)) rfl (fun W hW=>?_) ?_
 ·go_simp
 go_simp;refine Zaa (.slice Ao E co) rfl (fun W hW=>?_) ?_
 ·obtain⟨hc,hc'⟩:=hW;go_simp
 go_simp;refine Zaa (.slice A1 n1 d1) rfl (fun W hW=>?_) ?_
 ·go_simp
 go_simp;change Zah _ _ _ _ _ (_::_::[]) _ _;unfold Zah;go_wp2_with fail;refine⟨⟨(HH3.out.alloc _).cell 0,(HH4.out.alloc _).cell 3⟩,?_⟩;unfold Zah;change wpList _ _ _ (_::[]) _ (w1.drew.alloc (.cells #[.slice A1 n1 d1] 22))
 go_wp2_with (at_builtin;go_must (refine ZaM Zua rfl _ _ rfl base _ E (ZlD vs) rfl HO1.out #[.slice A1 n1 d1] w1.heap.size rfl rfl rfl (ZqU _ _ _) (by unfold maxLen;omega) (by omega) hsz ?_);go_must (intro A4 c4 w4 hown4 hb4 hg4;(have HB3:Hid (Blk w4 gs 71 #[.pointer (some ⟨bs,0,none⟩)]):=hid (HH3.out.other HO1.out hg4 (by decide)));(have HB4:Hid (Blk w4 bs 186 (ZqY bt st Ab q cb Ao E co)):=hid (HH4.out.other HO1.out hg4 (by decide)));(have f3:=HB4.out.frozen 3);(have d3:w4.cell? ⟨bs,3,none⟩=some (.slice Ao E co):=HB4.out.cell 3);(have l4:=HB4.out.lt);(have HO4:=hid hown4);(have HG4:=hid hg4);clear hown4 hb4 hg4))
 refine⟨HB3.out.cell 0,?_⟩;unfold Zah;change wpList _ _ _ (_::_::_::[]) _ _;go_wp2_with fail;refine NoPanic.normal ?_;have hst:=ZnH HB4.out (.slice A4 (E+1) c4);have HST:=hid hst;clear hst;go_wp2;go_ret;refine⟨rfl,w1,(A1,n1,d1),A4,c4,HRR.out,HG.out,HST.out.2,?_,?_⟩
 ·rw[HSN.out];exact HO4.out.kept HST.out.1 (.inr (Zab HO4.out HB4.out (by decide)))
 ·have g4:But (fun g=>g=bs\/(Value.slice Ao E co).ownBlock=some g) w1.drew w4:=But.of_own HG4.out (fun g e=>.inr e);exact((But.of_below _ ((bR0 _ _).drew)).trans g4).trans (But.of_gr HST.out.1 (.inl rfl))
end
def Zwf(w:World)(b:Nat)(A:Option Addr)(N cap n k:Nat)(L l:List Int)(e:Ending)(w':World):Prop:=
 ∃A' c',e=.returned (.tuple #[.slice A' n c',.bool true])/\w'.ownsRow w.heap.size 3 1 (.slice A' n c') n (iv l)/\w.grownBy w' (some b)/\Stm w' b A N cap k L
theorem ZoP(b N cap n s:Nat)(A:Option Addr)(L:List Int)(w:World)(hst:Stm w b A N cap s L)(hn:n<=1000)(hN:s+(n-1)<=N)(hN2:N<=10000000) :
  Calls prog 80 #[.int .i64 n,.pointer (some ⟨b,0,none⟩)] w (Zwf w b A N cap n (s+(n-1)) L (ZbG n (Zfv L s (Zcp n (n-1))) (n-1))):=by
 obtain⟨m,hm⟩:∃m,n-1=m:=⟨_,rfl⟩;rw[hm] at hN ⊢;obtain⟨ds,hds⟩:∃ds,Zfv L s (Zcp n m)=ds:=⟨_,rfl⟩;have hlen:L.length=N:=hst.len;have hdl:ds.length=m:=by rw[<-hds,ZfN _ _ _ (by rw[Zb5];omega),Zb5]
 have hdv:∀j,j<m->∃d:Nat,ds[j]?=some (d:Int)/\d<n:=fun j hj=>by
  obtain⟨x,hx⟩:∃x,L[s+j]?=some x:=⟨_,YaA (by omega)⟩;have h:=ZeX L s (Zcp n m) j x _ hx (ZeY n m j hj);rw[hds] at h;have h1:=Int.emod_nonneg x (show (n:Int)-(j:Int)≠0 by omega);have h2:=Int.emod_lt_of_pos x (show 0<(n:Int)-(j:Int) by omega);exact⟨(x%((n:Int)-(j:Int))).toNat,by rw[h];congr 1;omega,by omega⟩
 have HM:=hid (fun B d W (s':Stm W b A N cap s L) hr hB=>ZqX b A B N cap s m d L (Zcp n m) W s' (by omega) (Zb5 n m) hr hB (by omega) (Ztf n m (by omega)) (fun x hx=>by
  obtain⟨j,hj,e⟩:=List.mem_map.1 hx;have e':(n:Int)-(j:Int)=x:=e
  omega))
 have HS:=hid hst;have HD:=hid hds;have HDL:=hid hdl;have HDV:=hid hdv;have hmn:m<=n:=by omega
 have HMN:=hid hm;have hblt:=hst.blk.lt;clear hst hds hdl hdv hlen hm
 go_enter func80,ntmps80
 go_wp2_with fail
 go_loopw [6,7] (fun v c wr=>∃k q:Nat,k<=m/\k+q=n/\c=.int .i64 q/\(∃A' c',v=.slice A' k c')/\wr.ownsRow w.heap.size 3 1 v k (iv (Zcp n k))/\Bz0 w wr) (fun _ c _=>(intOf c).toNat)
 case atStart=>exact⟨0,n,by omega,by omega,rfl,⟨none,0,rfl⟩,by simpa [iv,Zcp] using World.ownsRow_nil _ _ _ _,bR0 _ _⟩
 case round=>
  obtain⟨k,q,hk,hq,rfl,⟨A',c',rfl⟩,hown,hb⟩:=hrel;have hmm:=HMN.out
  by_cases hlt:k<m
  ·have hq1:1<q:=by omega
   have hq2:q<=1000:=by omega
   have hsz:=hb.size;have HO:=hid hown;have HB:=hid hb;have HT:=hid (ZfP n k q (by omega));have HQ:=hid (And.intro hq hq1);clear hown hb hq
   go_wp2_with (at_builtin;go_must (refine Zav Zhr rfl _ _ rfl w.heap.size _ k (iv (Zcp n k)) rfl HO.out #[.int .i64 q] _ rfl rfl rfl (ZeW _) (by unfold maxLen;omega) (by omega) hsz ?_);intro A2 c2 w2 hown2 hb2)
   go_roundw
   case rel=>exact⟨k+1,q-1,by omega,by have:=HQ.out;omega,by have:=HQ.out;go_num,⟨A2,c2,rfl⟩,by rw[HT.out];exact hown2,HB.out.trans hb2⟩
   case measure=>have:=HQ.out;simp[intOf];omega
  ·obtain rfl:k=m:=by omega
   have hq1:q<=1:=by omega
   have hsz:=hb.size;have HST:=hid (show Stm wr b A N cap s L from HS.out.kept hb);have HB:=hid hb;have hob:∀b' o,A'=some ⟨b',o,none⟩->0<k->b'≠b:=fun b' o e h=>by
    have:=(Zbf hown b' o e).1;omega
   have C:=HM.out A' c' wr HST.out (Rd.of_own hown) hob;rw[HD.out] at C;have HC:=hid C;have HN:=hid hq;clear hown hb hob C hmm hq;go_wp2_with fail;((with_reducible refine HC.out.mono ?_);rintro e w2 ⟨A2,c2,rfl,hown2,hg2,hblk2⟩);have HO2:=hid hown2;have HG2:=hid (ZaB HB.out hg2);have HBK:=hid hblk2;clear hown2 hg2 hblk2;go_wp2_with fail;((with_reducible refine(ZkM n w2 (by omega)).mono ?_);rintro e w3 ⟨A3,c3,rfl,hown3,hb3⟩);have HO3:=hid hown3;have HB3:=hid hb3;clear hown3 hb3;go_wp2_with fail;have h5:Blk (w3.alloc (.cells #[.slice A3 n c3] 22)) w3.heap.size 22 #[.slice A3 n c3]:=Blk.new _ _ _;have hb5:Below w3.heap.size w3 (w3.alloc (.cells #[.slice A3 n c3] 22)):=bA0 _;obtain⟨W5,hW5⟩:∃W5,w3.alloc (.cells #[.slice A3 n c3] 22)=W5:=⟨_,rfl⟩;rw[hW5] at h5 hb5 ⊢;obtain⟨gh,hgh⟩:∃gh,w3.heap.size=gh:=⟨_,rfl⟩;rw[hgh] at h5 ⊢;have h25:Below w2.heap.size w2 W5:=((Zag.of HB3.out).call hb5).2.2;have hs2:w.heap.size<=w2.heap.size:=HG2.out.size;have hs3:w2.heap.size<=w3.heap.size:=HB3.out.size;have h2lt:∀b' o,A2=some ⟨b',o,none⟩->b'<w2.heap.size:=fun b' o e=>(Zbf HO2.out b' o e).2
   have HA2:=hid h2lt;have HOB:Hid (∀q,(Value.slice A3 n c3).ownBlock=some q->w2.heap.size<=q/\q<gh):=hid (fun q e=>by have:=HO3.out.lt q e;omega);have HA3:Hid (∀b' o,A3=some ⟨b',o,none⟩->b'<gh):=hid (fun b' o e=>by have:=(Zbf HO3.out b' o e).2;omega);have HH:=hid h5;have HD5:=hid ((Rd.of_own HO2.out).below h25);have HO5:=hid (Zac HO3.out hb5);have H25:=hid h25;have HGH:=hid hgh;clear h5 hb5 h25 hgh hW5 h2lt HO2 HO3 HB3 HC HM HB HST
   go_loopw [46] (fun c wr=>∃j:Nat,j<=k/\c=.int .i64 j/\wr.ownsRow w2.heap.size 3 1 (.slice A3 n c3) n (iv (ZbG n ds j))/\W5.grownBy wr (Value.slice A3 n c3).ownBlock) (fun c _=>k-(intOf c).toNat)
   case atStart=>exact⟨0,by omega,rfl,HO5.out,World.grownBy.refl _ _⟩
   case round=>
    obtain⟨j,hj,rfl,ho,hg⟩:=hrel
    by_cases hlt2:j<k
    ·obtain⟨_,_,q1,q2,q3,q6⟩:=ZaF ho;injection q1 with q4 _ q5
     subst q4 q5;obtain⟨g,rfl,hg3,hg4⟩:=q6 (by omega);have hg':W5.grownBy wr (some g):=hg;have hgh:=HA3.out g 0 rfl;obtain⟨b2,o2,y,hBe,hbl2,hy,cy⟩:=Zb7 HDL.out (HD5.out.grown hg' (fun b' o e h0=>by have:=HA2.out b' o e;omega)) hlt2;subst hBe;obtain⟨d,hd,hdn⟩:=HDV.out j hlt2;obtain rfl:y=(d:Int):=by rw[hd] at hy;injection hy with e;exact e.symm
     have hh:=HH.out.grown hg' (by simp;omega);obtain⟨i,hi⟩:∃i,i+j+1=n:=⟨n-1-j,by omega⟩;have C:=Zte gh g n c3 w2.heap.size i d (ZbG n ds j) wr (Za3 n ds j) (by omega) (by omega) hdn hh (by omega) ho;rw[show ZhG (ZbG n ds j) i d=ZbG n ds (j+1) by
      rw[ZbG,show n-1-j=i by omega];simp[List.getD,hd]] at C
     have HSW:=hid C;have HG:=hid hg';have HI:=hid hi;clear C ho hg hg' hh hd hy hi q6;go_wp2_with fail;rw[show (n:Int)-1-(j:Int)=(i:Int) by have:=HI.out;omega];((with_reducible refine HSW.out.mono ?_);rintro e w6 ⟨rfl,ho6,hg6⟩);go_wp2_with fail
     go_roundw
     case rel=>exact⟨j+1,by omega,by go_num,ho6,HG.out.trans hg6⟩
     case measure=>simp[intOf];omega
    ·obtain rfl:j=k:=by omega
     have hgl:W5.heap.size<=wr.heap.size:=hg.size;have hh:=HH.out.grown hg (fun e=>by have:=HOB.out gh e.symm;omega);have x0:wr.cell? ⟨gh,0,none⟩=some (.slice A3 n c3):=hh.cell 0;have lh:=hh.lt;have hb5:Below w.heap.size w2 wr:=by
      refine(H25.out.mono hs2).grown hg (by have:=H25.out.size;omega) (fun q e=>by have:=HOB.out q e;omega)
     have HF:=hid (ZiX HG2.out hb5);have HBKF:=hid ((HBK.out.kept H25.out).grown hg (fun e=>by have:=HOB.out b e.symm;have:=HBK.out.lt;omega));have HOF:=hid (Zae ho hs2);clear hh ho hg hb5;go_wp2_with fail
     go_ret2
     exact⟨A3,c3,rfl,by rw[HD.out];exact HOF.out,HF.out,HS.out.turned HF.out HBKF.out (by omega)⟩
theorem Zjp(b N cap n s:Nat)(A:Option Addr)(L:List Int)(w:World)(hst:Stm w b A N cap s L)(hn:n<=1000)(hN:N-s<n-1)(hN2:N<=10000000) :
  Calls prog 80 #[.int .i64 n,.pointer (some ⟨b,0,none⟩)] w fun e w'=>e=.returned (.tuple #[.slice none 0 0,.bool false])/\w.grownBy w' (some b):=by
 obtain⟨m,hm⟩:∃m,n-1=m:=⟨_,rfl⟩;rw[hm] at hN;have HM:=hid (fun B d W (s':Stm W b A N cap s L) hr=>ZqW b A B N cap s m d (Zcp n m) W s'.blk s'.le (by omega) (Zb5 n m) hr (by omega) (.inl hN));have HS:=hid hst;have hmn:m<=n:=by omega
 have HMN:=hid hm;clear hst hm
 go_enter func80,ntmps80
 go_wp2_with fail
 go_loopw [6,7] (fun v c wr=>∃k q:Nat,k<=m/\k+q=n/\c=.int .i64 q/\(∃A' c',v=.slice A' k c')/\wr.ownsRow w.heap.size 3 1 v k (iv (Zcp n k))/\Bz0 w wr) (fun _ c _=>(intOf c).toNat)
 case atStart=>exact⟨0,n,by omega,by omega,rfl,⟨none,0,rfl⟩,by simpa [iv,Zcp] using World.ownsRow_nil _ _ _ _,bR0 _ _⟩
 case round=>
  obtain⟨k,q,hk,hq,rfl,⟨A',c',rfl⟩,hown,hb⟩:=hrel;have hmm:=HMN.out
  by_cases hlt:k<m
  ·have hq1:1<q:=by omega
   have hq2:q<=1000:=by omega
   have hsz:=hb.size;have HO:=hid hown;have HB:=hid hb;have HT:=hid (ZfP n k q (by omega));have HQ:=hid (And.intro hq hq1);clear hown hb hq
   go_wp2_with (at_builtin;go_must (refine Zav Zhr rfl _ _ rfl w.heap.size _ k (iv (Zcp n k)) rfl HO.out #[.int .i64 q] _ rfl rfl rfl (ZeW _) (by unfold maxLen;omega) (by omega) hsz ?_);intro A2 c2 w2 hown2 hb2)
   go_roundw
   case rel=>exact⟨k+1,q-1,by omega,by have:=HQ.out;omega,by have:=HQ.out;go_num,⟨A2,c2,rfl⟩,by rw[HT.out];exact hown2,HB.out.trans hb2⟩
   case measure=>have:=HQ.out;simp[intOf];omega
  ·obtain rfl:k=m:=by omega
   have hq1:q<=1:=by omega
   have HST:=hid (show Stm wr b A N cap s L from HS.out.kept hb);have HB:=hid hb;have C:=HM.out A' c' wr HST.out (Rd.of_own hown);have HC:=hid C;have HN:=hid hq;clear hown hb C hmm hq;go_wp2_with fail;((with_reducible refine HC.out.mono ?_);rintro e w2 ⟨rfl,hg2,hblk2⟩);have HG2:=hid (ZaB HB.out hg2);clear hg2 hblk2;go_wp2_with fail
   go_ret2
   exact⟨rfl,HG2.out⟩
def ZbU(L:List Int)(n i:Nat):List (List Int):=(List.range i).map fun j=>ZkO L n (j*(n-1))
theorem ZfQ(L:List Int)(n i:Nat):(ZbU L n i).length=i:=by simp[ZbU]
theorem Ziu(L:List Int)(n i:Nat):ZbU L n (i+1)=ZbU L n i++[ZkO L n (i*(n-1))]:=by simp[ZbU,List.range_succ]
theorem ZkP(L:List Int)(n i j:Nat)(h:j<i):(ZbU L n i)[j]?=some (ZkO L n (j*(n-1))):=by simp[ZbU,h]
structure Zxc where
 B0:Nat
 B1:Nat
 g0:Nat
 gst:Nat
 gs:Nat
 bs:Nat
 sb:Nat
 n:Nat
 N:Nat
 cap:Nat
 q:Nat
 cb:Nat
 A:Option Addr
 Ab:Option Addr
 bt:Int
 st:Int
 L:List Int
 bl:List (Int×Int)
structure Zjq(K:Zxc)(w:World)(i:Nat):Prop where
 hn:Blk w K.g0 3 #[.int .i64 K.n]
 hg:Blk w K.gst 187 #[.pointer (some ⟨K.sb,0,none⟩)]
 hs:Blk w K.gs 71 #[.pointer (some ⟨K.bs,0,none⟩)]
 low:K.B0<=K.bs/\K.B0<=K.sb/\K.B0<=K.B1/\K.bs<K.B1/\K.sb<K.B1
 stm:Stm w K.sb K.A K.N K.cap (i*(K.n-1)) K.L
 far:∀b o,K.A=some ⟨b,o,none⟩->0<K.N->b<K.B1/\b≠K.bs
 blk:∃Ao co vs,Blk w K.bs 186 (ZqY K.bt K.st K.Ab K.q K.cb Ao i co)/\w.ownsRow K.B1 22 1 (.slice Ao i co) i (ZlD vs)/\Zez w K.B1 vs (ZbU K.L K.n i)
 rows:w.ownsRow K.B0 218 2 (.slice K.Ab K.q K.cb) K.q (rv K.bl)
 size:K.B1<=w.heap.size
theorem Zu5{w:World}{base:Nat}{e:TypeId}{size n:Nat}{v:Value}{xs:List Value}(h:w.ownsRow base e size v n xs){g:Nat}(e':v.ownBlock=some g):base<=g:=(h.lt g e').1
theorem Zjq.step{K:Zxc}{w:World}{i:Nat}(h:Zjq K w i)(hn:K.n<=1000)(hi:i<=1000)(hN:(i+1)*(K.n-1)<=K.N)(hN2:K.N<=10000000) :
  Calls prog 79 #[.pointer (some ⟨K.g0,0,none⟩),.pointer (some ⟨K.gst,0,none⟩),.pointer (some ⟨K.gs,0,none⟩)] w fun e w'=>e=.returned (.bool true)/\Zjq K w' (i+1)/\Below K.B0 w w':=by
 obtain⟨Ao,co,vs,hb,ho,hon⟩:=h.blk;obtain⟨l1,l2,l3,l4,l5⟩:=h.low;have hsz:=h.size;rw[Nat.succ_mul] at hN;refine(ZgO K.g0 K.gst K.gs K.sb K.bs K.N K.cap K.n (i*(K.n-1)) i co K.cb K.q K.B1 K.A Ao K.Ab K.bt K.st vs w true (fun sl w'=>sl.2.1=K.n/\w'.ownsRow w.heap.size 3 1 (.slice sl.1 sl.2.1 sl.2.2) sl.2.1 (iv (ZkO K.L K.n (i*(K.n-1))))/\Stm w' K.sb K.A K.N K.cap (i*(K.n-1)+(K.n-1)) K.L) h.hn h.hg h.hs hb ho h.stm.blk hi hsz ?_).mono ?_
 ·refine(ZoP K.sb K.N K.cap K.n (i*(K.n-1)) K.A K.L w h.stm hn hN hN2).mono ?_;rintro e w1 ⟨A1,c1,rfl,ho1,hg1,hs1⟩;exact⟨(A1,K.n,c1),rfl,⟨rfl,ho1,hs1⟩,hg1⟩
 ·rintro e w' ⟨rfl,w1,sl,Ao',co',⟨hl1,hr1,hs1⟩,hg1,hb',ho',hbut⟩;have b1:=hb.grown hg1 (by simpa using hb.ne_ h.stm.blk (by decide));have o1:=ho.kept hg1 (.inr (Zab ho h.stm.blk (by decide)));have n1:=h.hn.grown hg1 (by simpa using h.hn.ne_ h.stm.blk (by decide));have g1:=h.hg.grown hg1 (by simpa using h.hg.ne_ h.stm.blk (by decide));have s1:=h.hs.grown hg1 (by simpa using h.hs.ne_ h.stm.blk (by decide));have r1:=h.rows.kept hg1 (.inr (Zab h.rows h.stm.blk (by decide)));have sz1:=hg1.size;have hS':Stm w' K.sb K.A K.N K.cap ((i+1)*(K.n-1)) K.L:=by
   rw[Nat.succ_mul];refine⟨hs1.blk.but hbut ?_,hs1.len,hN,hs1.rd.but hbut ?_,hs1.apart,hs1.inb⟩
   ·rintro(e|e)
    ·exact hs1.blk.ne_ b1 (by decide) e
    ·exact Zab o1 hs1.blk (by decide) e
   ·intro b o e h0 hS;obtain⟨f1,f2⟩:=h.far b o e h0
    rcases hS with e'|e'
    ·exact f2 e'
    ·have:=Zu5 o1 e';omega
  refine⟨rfl,⟨n1.but hbut ?_,g1.but hbut ?_,s1.but hbut ?_,h.low,hS',h.far,⟨Ao',co',vs++[sl],hb',ho',?_⟩,Zap r1 hbut ?_,YaH hsz (YaH sz1 hbut.size)⟩,(Zai (bR0 _ _) (YaH l3 hsz) hg1 l2).trans (hbut.below (YaH l3 (YaH hsz sz1)) ?_)⟩
  ·rintro(e|e)
   ·exact n1.ne_ b1 (by decide) e
   ·exact Zab o1 n1 (by decide) e
  ·rintro(e|e)
   ·exact g1.ne_ b1 (by decide) e
   ·exact Zab o1 g1 (by decide) e
  ·rintro(e|e)
   ·exact s1.ne_ b1 (by decide) e
   ·exact Zab o1 s1 (by decide) e
  ·rw[Ziu];have hf:∀(v:Value) (m:Nat) (xs:List Value) (g:Nat),w1.ownsRow K.B1 3 1 v m xs->v.ownBlock=some g->¬(g=K.bs\/(Value.slice Ao i co).ownBlock=some g):=by
    intro v m xs g hv e hS
    rcases hS with e'|e'
    ·exact Zab hv b1 (by decide) (e'.symm▸e)
    ·rcases ZdS hv o1 (by decide) with h2|h2
     ·rw[e] at h2;cases h2
     ·exact h2 (e.trans e'.symm)
   have on1:Zez w1 K.B1 vs (ZbU K.L K.n i):=⟨hon.len,fun j s l q1 q2=>⟨(hon.row j s l q1 q2).1,(hon.row j s l q1 q2).2.kept hg1 (.inr (Zab (hon.row j s l q1 q2).2 h.stm.blk (by decide)))⟩⟩;have hrb:=Zae hr1 hsz;exact(on1.but hbut hf).snoc (by rw[hl1,Zbw]) (Zap hrb hbut (fun g e=>hf _ _ _ g hrb e))
  ·intro g e hS
   rcases hS with e'|e'
   ·exact Zab r1 b1 (by decide) (e'.symm▸e)
   ·rcases ZdS r1 o1 (by decide) with h2|h2
    ·rw[e] at h2;cases h2
    ·exact h2 (e.trans e'.symm)
  ·rintro g (e|e)
   ·omega
   ·have:=Zu5 o1 e;omega
theorem Zjq.short{K:Zxc}{w:World}{i:Nat}(h:Zjq K w i)(hn:K.n<=1000)(hi:i<=1000)(hN:K.N<(i+1)*(K.n-1))(hN2:K.N<=10000000) :
  Calls prog 79 #[.pointer (some ⟨K.g0,0,none⟩),.pointer (some ⟨K.gst,0,none⟩),.pointer (some ⟨K.gs,0,none⟩)] w fun e w'=>e=.returned (.bool false)/\Below K.B0 w w':=by
 obtain⟨Ao,co,vs,hb,ho,hon⟩:=h.blk;obtain⟨l1,l2,l3,l4,l5⟩:=h.low;have hsz:=h.size;rw[Nat.succ_mul] at hN;refine(ZgO K.g0 K.gst K.gs K.sb K.bs K.N K.cap K.n (i*(K.n-1)) i co K.cb K.q K.B1 K.A Ao K.Ab K.bt K.st vs w false (fun sl w'=>True) h.hn h.hg h.hs hb ho h.stm.blk hi hsz ?_).mono ?_
 ·refine(Zjp K.sb K.N K.cap K.n (i*(K.n-1)) K.A K.L w h.stm hn (by have h9:=hN;have h8:=h.stm.le;generalize i*(K.n-1)=p at h8 h9 ⊢;omega) hN2).mono ?_;rintro e w1 ⟨rfl,hg1⟩;exact⟨(none,0,0),rfl,trivial,hg1⟩
 ·rintro e w' ⟨rfl,w1,sl,Ao',co',_,hg1,hb',ho',hbut⟩;have o1:=ho.kept hg1 (.inr (Zab ho h.stm.blk (by decide)));have sz1:=hg1.size;refine⟨rfl,(Zai (bR0 _ _) (YaH l3 hsz) hg1 l2).trans (hbut.below (YaH l3 (YaH hsz sz1)) ?_)⟩;rintro g (e|e)
  ·omega
  ·have:=Zu5 o1 e;omega
structure ZcB(w:World)(base bs:Nat)(bt st:Int)(q E:Nat)(bl:List (Int×Int))(os:List (List Int)):Prop where
 low:base<=bs
 ex:∃Ab cb Ao co vs,Blk w bs 186 (ZqY bt st Ab q cb Ao E co)/\w.ownsRow base 218 2 (.slice Ab q cb) q (rv bl)/\w.ownsRow base 22 1 (.slice Ao E co) E (ZlD vs)/\Zez w base vs os
theorem ZcB.below{w w':World}{base bs:Nat}{bt st:Int}{q E:Nat}{bl:List (Int×Int)}{os:List (List Int)}(h:ZcB w base bs bt st q E bl os)(hb:Below w.heap.size w w'):ZcB w' base bs bt st q E bl os:=by
 obtain⟨h0,Ab,cb,Ao,co,vs,h1,h2,h3,h4⟩:=h;exact⟨h0,Ab,cb,Ao,co,vs,h1.kept hb,Zac h2 hb,Zac h3 hb,h4.below hb⟩
theorem ZcB.base{w:World}{base base' bs:Nat}{bt st:Int}{q E:Nat}{bl:List (Int×Int)}{os:List (List Int)}(h:ZcB w base bs bt st q E bl os)(hb:base'<=base):ZcB w base' bs bt st q E bl os:=by
 obtain⟨h0,Ab,cb,Ao,co,vs,h1,h2,h3,h4⟩:=h;exact⟨YaH hb h0,Ab,cb,Ao,co,vs,h1,Zae h2 hb,Zae h3 hb,h4.base hb⟩
def Zub(w:World)(b st N n q E:Nat)(L:List Int)(e:Ending)(w':World):Prop:=
 Below w.heap.size w w'/\((E*(n-1)<=N/\∃bs,e=.returned (.tuple #[.pointer (some ⟨bs,0,none⟩),.int .i64 0])/\ZcB w' w.heap.size bs b st q E (Zat (q*b) b) (ZbU L n E))\/(N<E*(n-1)/\e=.returned (.tuple #[.pointer none,.int .i64 8])))
theorem ZkQ{w:World}{g:Nat}{t:TypeId}{x:Value}(h:Blk w g t #[x])(v:Value):w.grownBy (w.setCell ⟨g,0,none⟩ v) (some g)/\Blk (w.setCell ⟨g,0,none⟩ v) g t #[v]:=
 ⟨Zak (p:=⟨g,0,none⟩) (World.grownBy.refl w _) (.inl rfl) v,by simpa using h.set_ 0 v⟩
theorem ZqZ(w:World)(cs:Array Value)(t u:TypeId)(x v:Value) :
  ((w.alloc (.cells #[x] u)).alloc (.cells cs t)).grownBy (((w.alloc (.cells #[x] u)).alloc (.cells cs t)).setCell ⟨w.heap.size,0,none⟩ v) (some w.heap.size) /\
  Blk (((w.alloc (.cells #[x] u)).alloc (.cells cs t)).setCell ⟨w.heap.size,0,none⟩ v) w.heap.size u #[v]:=
 ZkQ ((Blk.new w u #[x]).alloc _) v
section
variable(n b st N cap q E:Nat)(A:Option Addr)(L:List Int)(w:World)
theorem ZoQ(hb1:1<=b)(hbn:b<=n)(hn:n<=60)(hst:st<=60)(hq:n/b=q)(hE:cnt st q=E)(hN2:N<=4000)(hl:L.length=N)(h:Rd w 1 A N (uv L))(hu:InU L) :
  Calls prog 22 #[.int .i64 n,.int .i64 b,.int .i64 st,.slice A N cap] w (Zub w b st N n q E L):=by
 have e1:decide ((n:Int)<1)=false:=YaI (by omega);have e2:decide ((1048576:Int)<(n:Int))=false:=YaI (by omega);have e3:decide ((st:Int)<0)=false:=YaI (by omega);have e4:decide ((1048576:Int)<(st:Int))=false:=YaI (by omega);have e5:decide ((b:Int)<1)=false:=YaI (by omega);have e6:decide (n<b)=false:=YaI (by omega);have HR:=hid h;have HL:=hid hl;have HU:=hid hu;have HQ:=hid hq;have HE:=hid hE;clear h hl hu hq hE
 go_enter func22,ntmps22
 go_wp2_with fail;have HMA:Hid (Below w.heap.size w (w.alloc (.cells #[.int .i64 (n:Int)] 3))/\Blk (w.alloc (.cells #[.int .i64 (n:Int)] 3)) w.heap.size 3 #[.int .i64 n]):=hid ⟨bA0 _,Blk.new _ _ _⟩;obtain⟨g0,hg0⟩:∃g0,w.heap.size=g0:=⟨_,rfl⟩;have HG0:=hid hg0;rw[hg0] at HMA ⊢;obtain⟨w0,hw0⟩:∃w0,w.alloc (.cells #[.int .i64 (n:Int)] 3)=w0:=⟨_,rfl⟩;rw[hw0] at HMA ⊢;clear hw0 hg0;have c0:w0.cell? ⟨g0,0,none⟩=some (.int .i64 n):=HMA.out.2.cell 0;have l0:=HMA.out.2.lt;have hdm:b*q+n%b=n:=by have:=Nat.div_add_mod n b;rw[HQ.out] at this;exact this
 have hmlt:n%b<b:=Nat.mod_lt _ hb1;have hq1:1<=q:=by rw[<-HQ.out];exact(Nat.one_le_div_iff (by omega)).2 hbn
 have hq60:q<=60:=by rw[<-HQ.out];exact YaH (Nat.div_le_self n b) hn
 have hE60:E<=60:=by rw[<-HE.out];exact YaH (Zci st q) hst
 have hqn:q*b<=n:=by rw[Nat.mul_comm];omega
 have hw:IntKind.i64.wrap ((n:Int)-(n:Int)%(b:Int))=((q*b:Nat):Int):=by
  have h1:(n:Int)-(n:Int)%(b:Int)=((q*b:Nat):Int):=by
   rw[<-Int.natCast_emod,Nat.mul_comm q b];omega
  rw[h1,IntKind.wrap_i64];omega
 have hcq:cnt (q*b) b=q:=by
  rw[Zdm (q*b) b (Nat.mul_pos hq1 hb1) hb1];obtain⟨q',rfl⟩:∃q',q=q'+1:=⟨q-1,by omega⟩;have h1:(q'+1)*b-1=q'*b+(b-1):=by rw[Nat.succ_mul];omega
  have h2:(q'*b+(b-1))/b=q':=by
   rw[Nat.add_comm,Nat.add_mul_div_right _ _ (by omega),Nat.div_eq_of_lt (by omega)];omega
  rw[h1,h2]
 have HBL:=hid (fun W=>(by have h:=ZdR (q*b) b W (Nat.mul_pos hq1 hb1) (by omega) hb1 (by omega);rw[hcq] at h;exact h:Calls prog 77 #[.int .i64 ((q*b:Nat):Int),.int .i64 b] W (Zal W 218 2 q (rv (Zat (q*b) b)))));obtain⟨qb,hqb⟩:∃qb,q*b=qb:=⟨_,rfl⟩;rw[hqb] at hw HBL hqn;have HQB:=hid hqb;obtain⟨bl,hbl⟩:∃bl,Zat qb b=bl:=⟨_,rfl⟩;rw[hbl] at HBL;have HBLL:=hid hbl;clear hqb hbl hdm hmlt hcq;obtain⟨d,hd⟩:∃d,n%b=d:=⟨_,rfl⟩;have hri:(n:Int).tmod (b:Int)=(d:Int):=by rw[<-hd];rfl
 have hri2:(n:Int)%(b:Int)=(d:Int):=by rw[<-hd];rfl
 have zn:¬b=0:=by omega
 rw[hri2] at hw;clear hd hri2;have ks0:Zag w0 (w0.alloc (.cells #[.pointer none] 71)).drew:=((Zag.of (bR0 _ w0)).alloc _).drew
 go_cut [10] (fun s10 wc=>∃(gs bs cb:Nat) (Ab:Option Addr),s10=.pointer (some ⟨gs,0,none⟩)/\w0.heap.size<=gs/\w0.heap.size<=bs/\Zag w0 wc/\Blk wc gs 71 #[.pointer (some ⟨bs,0,none⟩)]/\Blk wc bs 186 (ZqY b st Ab q cb none 0 0)/\wc.ownsRow w0.heap.size 218 2 (.slice Ab q cb) q (rv bl))
 case first=>
  go_region_held3 (fun w'=>Zag w0 w') (first|exact kk|exact kk.alloc _|exact(kk.alloc _).alloc _|exact kst|exact ks0|exact Zag.start w0) (first
   | (go_at_call 77;(with_reducible refine(HBL.out w0.drew).mono ?_);rintro e w1 ⟨Ab,cb,rfl,hO,hb⟩;have kk:=(Zag.start w0).call hb;have HOB:=hid hO;have v0:=(Blk.new w1 71 #[.pointer none]).cell 0;have v1:=(Blk.new w1 71 #[.pointer none]).frozen 0;have v2:=(Blk.new w1 71 #[.pointer none]).lt;have HSE:=hid (ZqZ w1 (ZqY b st Ab q cb none 0 0) 186 71 (.pointer none) (.pointer (some ⟨w1.heap.size+1,0,none⟩)));have kst:=Zag.of (Zai ((kk.alloc (.cells #[.pointer none] 71)).alloc (.cells (ZqY b st Ab q cb none 0 0) 186)).2.2 ((kk.alloc (.cells #[.pointer none] 71)).alloc (.cells (ZqY b st Ab q cb none 0 0) 186)).2.1 HSE.out.1 kk.2.1);clear hO hb)
   | (go_at_call 77;(with_reducible refine(HBL.out (w0.alloc (.cells #[.pointer none] 71)).drew).mono ?_);rintro e w1 ⟨Ab,cb,rfl,hO,hb⟩;have kk:=ks0.call hb;have HB1:=hid ((Blk.new w0 71 #[.pointer none]).drew.kept hb);have hu:=YaF w0.heap.size;have HOB:=hid hO;have v0:=HB1.out.cell 0;have v1:=HB1.out.frozen 0;have v2:=HB1.out.lt;have HSE:=hid (ZkQ HB1.out (.pointer (some ⟨w1.heap.size,0,none⟩)));have kst:=(Zag.of (Zai kk.2.2 kk.2.1 HSE.out.1 hu)).alloc (.cells (ZqY b st Ab q cb none 0 0) 186);clear hO hb))
  all_goals go_wp2_with fail
  all_goals go_meet
  all_goals first
   |exact⟨w1.heap.size+1,w1.heap.size,cb,Ab,rfl,Nat.le_succ_of_le kk.2.1,kk.2.1,(kk.alloc _).alloc _,Blk.new' _ _ (by simp),(Blk.new w1 _ _).alloc _,(HOB.out.alloc _).alloc _⟩
   |exact⟨w1.heap.size,w1.heap.size+1,cb,Ab,rfl,kk.2.1,Nat.le_succ_of_le kk.2.1,(kk.alloc _).alloc _,(Blk.new w1 _ _).alloc _,Blk.new' _ _ (by simp),(HOB.out.alloc _).alloc _⟩
   |exact⟨w0.heap.size,w1.heap.size,cb,Ab,rfl,YaF _,kk.2.1,kst,HSE.out.2.alloc _,Blk.new' _ _ (by simp[World.setCell]),Zae ((HOB.out.kept HSE.out.1 (.inr (Zab HOB.out HB1.out (by decide)))).alloc _) (by simp)⟩
 case rest=>
  rename World=>wq
  obtain⟨gs,bs,cb,Ab,rfl,hgs,hbs,kk,hbg,hbb,hob⟩:=hcut;have hBq:Below w.heap.size w wq:=by
   have h1:=HMA.out.1;rw[<-HG0.out] at h1;exact bT0 h1 kk.2.2
  have HBQ:=hid hBq;have HN0:=hid (HMA.out.2.kept kk.2.2);have HS1:=hid hbg;have HB1:=hid hbb;have HO1:=hid hob;have hw0:w.heap.size<=w0.heap.size:=HMA.out.1.size;clear kk hbg hbb hob hBq c0 l0 ks0 HBL;go_wp2_with fail;((with_reducible refine(Zmz A N cap L wq HL.out (HR.out.below HBQ.out) (by omega) HU.out).mono ?_);rintro e w2 ⟨sb,A2,cap2,rfl,hst2,hsb,hA2,hb2⟩);have HST:=hid hst2;have HB2:=hid hb2;have HX1:=hid (HN0.out.kept hb2);have HX2:=hid (HS1.out.kept hb2);have HX3:=hid (HB1.out.kept hb2);have HX4:=hid (Zac HO1.out hb2);have d0:w2.cell? ⟨gs,0,none⟩=some (.pointer (some ⟨bs,0,none⟩)):=HX2.out.cell 0;have d1:w2.cell? ⟨bs,2,none⟩=some (.slice Ab q cb):=HX3.out.cell 2;have d2:=HX2.out.lt;have d3:=HX3.out.lt;have hbsq:=HB1.out.lt;clear hst2 hb2;have HCNT:=hid (fun W=>(by have h:=Zku st q W (by omega) (by omega);rw[HE.out] at h;exact h:Calls prog 81 #[.int .i64 st,.int .i64 q] W fun e w'=>e=.returned (.int .i64 (E:Nat))/\W=w'));have h3:Below w2.heap.size w2 (w2.alloc (.cells #[.pointer (some ⟨sb,0,none⟩)] 187)):=bA0 _;have hg3:Blk (w2.alloc (.cells #[.pointer (some ⟨sb,0,none⟩)] 187)) w2.heap.size 187 #[.pointer (some ⟨sb,0,none⟩)]:=Blk.new _ _ _;have hs3:(w2.alloc (.cells #[.pointer (some ⟨sb,0,none⟩)] 187)).heap.size=w2.heap.size+1:=by simp
  have H3:=hid (And.intro h3 (And.intro hg3 hs3));clear h3 hg3 hs3;go_wp2_with fail;((with_reducible refine(HCNT.out _).mono ?_);rintro e w9 ⟨rfl,rfl⟩);obtain⟨w3,hw3⟩:∃w3,w2.alloc (.cells #[.pointer (some ⟨sb,0,none⟩)] 187)=w3:=⟨_,rfl⟩;rw[hw3] at H3 ⊢;clear hw3 d0 d1 d2 d3;obtain⟨gt,hgt⟩:∃gt,w2.heap.size=gt:=⟨_,rfl⟩;have hsb2:sb<w2.heap.size:=HST.out.blk.lt;have hgs2:gs<w2.heap.size:=HX2.out.lt;have hbs2:bs<w2.heap.size:=HX3.out.lt;have HAL:=hid (fun b o (e:A2=some ⟨b,o,none⟩) (h0:0<N)=>(⟨HST.out.rd.lt b o e h0,hA2 b o e⟩:b<w2.heap.size/\wq.heap.size<=b));have HIN:Hid (Zjq ⟨g0,w3.heap.size,g0,gt,gs,bs,sb,n,N,cap2,q,cb,A2,Ab,b,st,L,bl⟩ w3 0):=hid (by
   have hz:=H3.out.2.2;have hB:=H3.out.1;have hwq:=HBQ.out.size;have hg:=H3.out.2.1;rw[hgt] at hg;exact⟨HX1.out.kept hB,hg,HX2.out.kept hB,(by
    show g0<=bs/\g0<=sb/\g0<=w3.heap.size/\bs<w3.heap.size/\sb<w3.heap.size
    have:=HG0.out
    omega),by
     show Stm w3 sb A2 N cap2 (0*(n-1)) L
     rw[Nat.zero_mul];exact HST.out.kept hB,fun b' o e h0=>by
      have:=HAL.out b' o e h0
      show b'<w3.heap.size/\b'≠bs
      omega,⟨none,0,[],HX3.out.kept hB,World.ownsRow_nil _ _ _ _,Zez.nil _ _⟩,Zae (Zac HX4.out hB) (by have:=HG0.out;show g0<=w0.heap.size;omega),YaF _⟩)
  have HB3:Hid (Below w.heap.size w w3):=hid (((Zag.of HBQ.out).call HB2.out).call H3.out.1).2.2;have HSOME:=hid (fun j wr (h:Zjq ⟨g0,w3.heap.size,g0,gt,gs,bs,sb,n,N,cap2,q,cb,A2,Ab,b,st,L,bl⟩ wr j) (hj:j<=1000) (hN:(j+1)*(n-1)<=N)=>h.step (by show n<=1000;omega) hj hN (by show N<=10000000;omega));have HSHRT:=hid (fun j wr (h:Zjq ⟨g0,w3.heap.size,g0,gt,gs,bs,sb,n,N,cap2,q,cb,A2,Ab,b,st,L,bl⟩ wr j) (hj:j<=1000) (hN:N<(j+1)*(n-1))=>h.short (by show n<=1000;omega) hj hN (by show N<=10000000;omega));rw[hgt];clear HX1 HX2 HX3 HX4 HST HAL hA2 HCNT HN0 HS1 HB1 HO1 HMA H3 hw HBQ HB2;go_wp2_with fail
  go_loopw [57] (fun c wr=>∃j:Nat,j<=E/\c=.int .i64 j/\Zjq ⟨g0,w3.heap.size,g0,gt,gs,bs,sb,n,N,cap2,q,cb,A2,Ab,b,st,L,bl⟩ wr j/\Bz0 w wr) (fun c _=>E-(intOf c).toNat)
  case atStart=>exact⟨0,by omega,rfl,HIN.out,HB3.out⟩
  case round=>
   obtain⟨j,hj,rfl,hs,hb⟩:=hrel;have HB:=hid hb;have HSS:=hid hs;have r1:wr.cell? ⟨gs,0,none⟩=some (.pointer (some ⟨bs,0,none⟩)):=hs.hs.cell 0;have r2:=hs.hs.lt;clear hs hb
   by_cases hlt:j<E
   ·by_cases hfit:(j+1)*(n-1)<=N
    ·have C:=hid (HSOME.out j wr HSS.out (by omega) hfit);have HF:=hid hfit;clear hfit;go_wp2_with fail;((with_reducible refine C.out.mono ?_);rintro e w5 ⟨rfl,hs5,hb5⟩);have HS5:=hid hs5;have HB5:=hid (HB.out.trans (by rw[HG0.out];exact hb5));clear hs5 hb5;go_wp2_with fail
     go_roundw
     case rel=>exact⟨j+1,by omega,by go_num,HS5.out,HB5.out⟩
     case measure=>simp[intOf];omega
    ·have C:=hid (HSHRT.out j wr HSS.out (by omega) (by omega));have HF:=hid (YaK (Nat.lt_of_not_le hfit) (YaW (n-1) hlt));clear hfit;go_wp2_with fail;((with_reducible refine C.out.mono ?_);rintro e w5 ⟨rfl,hb5⟩);have HB5:=hid (HB.out.trans (by rw[HG0.out];exact hb5));clear hb5;go_wp2_with fail
     go_ret2
     exact⟨HB5.out,.inr ⟨HF.out,rfl⟩⟩
   ·obtain rfl:j=E:=by omega
    go_wp2_with fail
    go_ret2
    obtain⟨Ao,co,vs,q1,q2,q3⟩:=HSS.out.blk;refine⟨HB.out,.inl ⟨HSS.out.stm.le,bs,rfl,?_⟩⟩;rw[HQB.out,HBLL.out];have hl1:=HSS.out.low;have hgg:=HG0.out;exact⟨by rw[hgg];exact hl1.1,Ab,cb,Ao,co,vs,q1,Zae HSS.out.rows (by rw[hgg];exact YaF _),Zae q2 (by rw[hgg];exact hl1.2.2.1),q3.base (by rw[hgg];exact hl1.2.2.1)⟩
end
def Zdz(w:World)(m:Nat)(l:List Int)(e:Ending)(w':World):Prop:=
 ∃A c,e=.returned (.slice A m c)/\m<=c/\Rd w' 1 A m (iv l)/\Bz0 w w'
theorem Zdz.none(w w':World)(hb:Below w.heap.size w w'):Zdz w 0 [] (.returned (.slice .none 0 0)) w':=⟨_,_,rfl,YaF _,Rd.nil _ _ _,hb⟩
theorem Zq0{w:World}{A:Option Addr}{N:Nat}{l:List Int}(h:Rd w 1 A N (iv l))(hl:l.length=N)(lo n:Nat)(hfit:lo+n<=N):Rd w 1 (A.map (fun x=>x.add lo)) n (iv ((l.drop lo).take n)):=by
 refine⟨by simp[iv];omega,fun h0=>?_⟩;obtain⟨b,o,rfl,hlt,hcell⟩:=h.2 (by omega);refine⟨b,o+lo,by rw[Option.map_some];congr 1;unfold Addr.add;by_cases hj:lo=0<;>simp[hj],hlt,fun j u hu=>?_⟩;rw[iv,YaR,List.getElem?_take] at hu
 split at hu
 ·rw[List.getElem?_drop] at hu;rw[Nat.add_assoc];exact hcell (lo+j) u (by rw[iv,YaR];exact hu)
 ·cases hu
theorem Zu6(w:World)(A:Option Addr)(l:List Int)(lo:Nat):Rd w 1 A 0 (iv ((l.drop lo).take 0)):=by simpa [iv] using Rd.nil w 1 A
def ZaV(l:List Int)(i k:Int):List Int:=if 0<=i/\i<k then (l.drop (bnd l.length k.toNat i.toNat)).take (bnd l.length k.toNat (i.toNat+1)-bnd l.length k.toNat i.toNat) else []
section
variable(A:Option Addr)(n c:Nat)(l:List Int)(i k:Int)(w:World)
theorem ZkR(hl:l.length=n)(h:Rd w 1 A n (iv l))(hn:n<=1000)(hc:n<=c)(hk:k<=1000)(hk0:-1000<=k)(hi:i<=1000)(hi0:-1000<=i) :
  Calls prog 88 #[.slice A n c,.int .i64 i,.int .i64 k] w (Zdz w (ZaV l i k).length (ZaV l i k)):=by
 have HR:=hid h;have HL:=hid hl;clear h hl
 by_cases hk1:k<1
 ·have HE:=hid (Zka n k w (.inr hk1));have hp:ZaV l i k=[]:=by rw[ZaV,if_neg (by omega)]
  rw[hp];clear hp
  by_cases hi1:i<0
  ·have e1:decide (i<0)=true:=YaJ hi1
   go_enter func88,ntmps88
   go_wp2_with fail;((with_reducible refine HE.out.mono ?_);rintro e w1 ⟨A1,c1,rfl,hown,hb⟩);go_wp2_with fail;go_ret;exact Zdz.none _ _ hb
  ·have e1:decide (i<0)=false:=YaI hi1;have e2:decide ((0:Int)<=i)=true:=YaJ (by omega)
   go_enter func88,ntmps88
   go_wp2_with fail;((with_reducible refine HE.out.mono ?_);rintro e w1 ⟨A1,c1,rfl,hown,hb⟩);go_wp2_with fail;go_ret;exact Zdz.none _ _ hb
 ·obtain⟨K,rfl⟩:=YaM (show 0<=k by omega);have HE:=hid (Zni n K w (by omega) (by omega) (by omega))
  by_cases hin:0<=i/\i<(K:Int)
  ·obtain⟨I,rfl⟩:=YaM hin.1;have hIK:I<K:=by omega
   have hm:=Zga n K I (I+1) (by omega);have hle:=Zt1 n K (I+1) (by omega) (by omega);have hp:ZaV l (I:Int) (K:Int)=(l.drop (bnd n K I)).take (bnd n K (I+1)-bnd n K I):=by
    rw[ZaV,if_pos hin,HL.out];rfl
   rw[hp];have HX:=hid (Zgv n K I hIK);obtain⟨lo,hlo⟩:∃lo,bnd n K I=lo:=⟨_,rfl⟩;obtain⟨hi',hhi⟩:∃hi',bnd n K (I+1)=hi':=⟨_,rfl⟩;rw[hlo,hhi] at HX hm;rw[hhi] at hle;rw[hlo,hhi];obtain⟨m,hmm⟩:∃m,hi'-lo=m:=⟨_,rfl⟩;rw[hmm];have HMM:=hid hmm;have HLN:Hid (((l.drop lo).take m).length=m):=hid (ZqV HL.out lo m (by omega));rw[HLN.out];have e1:decide ((I:Int)<0)=false:=YaI (by omega);have e2:decide ((K:Int)<=(I:Int))=false:=YaI (by omega);have i2:(I:Int)<(K:Int):=by omega
   have i3:(0:Int)<=(I:Int):=by omega
   clear hp hlo hhi hin hk1 hmm
   go_enter func88,ntmps88
   go_wp2_with fail;((with_reducible refine HE.out.mono ?_);rintro e w1 ⟨A1,c1,rfl,hown,hb⟩);obtain⟨b1,o1,x,y,rfl,hbl,hx,d1,d2⟩:=Zdn (Zbe n K) (Rd.of_own hown) hIK;rw[HX.out] at hx;injection hx with hx
   injection hx with hx1 hx2
   subst hx1 hx2;have HB:=hid hb;clear hb hown;go_wp2_with fail
   ·obtain rfl:m=0:=by have:=HMM.out;omega
    go_ret;exact⟨A,0,rfl,YaF _,Zu6 _ _ _ _,HB.out.alloc HB.out.size _⟩
   ·rw[HMM.out];go_ret;exact⟨_,_,rfl,YaF _,(Zq0 (HR.out.below HB.out) HL.out lo m (by have:=HMM.out;omega)).alloc _,HB.out.alloc HB.out.size _⟩
  ·have hp:ZaV l i (K:Int)=[]:=by rw[ZaV,if_neg hin]
   rw[hp];clear hp
   by_cases hi1:i<0
   ·have e1:decide (i<0)=true:=YaJ hi1
    go_enter func88,ntmps88
    go_wp2_with fail;((with_reducible refine HE.out.mono ?_);rintro e w1 ⟨A1,c1,rfl,hown,hb⟩);go_wp2_with fail;go_ret;exact Zdz.none _ _ hb
   ·have e1:decide (i<0)=false:=YaI hi1;have e2:decide ((K:Int)<=i)=true:=YaJ (by omega)
    go_enter func88,ntmps88
    go_wp2_with fail;((with_reducible refine HE.out.mono ?_);rintro e w1 ⟨A1,c1,rfl,hown,hb⟩);go_wp2_with fail;go_ret;exact Zdz.none _ _ hb
end
def Za7(L:List Int)(n b q:Nat)(st t:Int):List Int:=if 0<=t/\t<st then ((ZkO L n (t.toNat/q*(n-1))).drop (t.toNat%q*b)).take b else []
theorem ZkS(L:List Int)(n b q:Nat)(st t:Int)(hbn:b<=n):(Za7 L n b q st t).length<=n:=by
 rw[Za7]
 split
 ·simp;omega
 ·simp
section
variable(base bs b st q E n:Nat)(L:List Int)(w:World)
theorem ZkT(os:List (List Int))(bl:List (Int×Int))(h:ZcB w base bs b st q E bl os):Calls prog 221 #[.pointer (some ⟨bs,0,none⟩)] w fun e w'=>e=.returned (.int .i64 st)/\w=w':=by
 obtain⟨_,Ab,cb,Ao,co,vs,hb,_,_,_⟩:=h;have c1:w.cell? ⟨bs,1,none⟩=some (.int .i64 st):=hb.cell 1;have l1:=hb.lt;clear hb
 go_enter func221,ntmps221
 go_wp2;go_ret;exact⟨rfl,rfl⟩
theorem Ztg(t:Int)(os:List (List Int))(bl:List (Int×Int))(h:ZcB w base bs b st q E bl os)(ht:t<0\/st<=t) :
  Calls prog 170 #[.pointer (some ⟨bs,0,none⟩),.int .i64 t] w fun e w'=>e=.returned (.tuple #[.int .i64 0,.int .i64 0,.bool false])/\w=w':=by
 have HS:=hid (ZkT base bs b st q E w os bl h);clear h
 by_cases h1:t<0
 ·have e1:decide (t<0)=true:=YaJ h1;clear ht
  go_enter func170,ntmps170
  go_wp2_with fail;exact bodyPost_ret (v:=.tuple #[.int .i64 0,.int .i64 0,.bool false]) (by simp[results,results170,go_sem]) rfl ⟨rfl,rfl⟩
 ·have e1:decide (t<0)=false:=YaI h1;have e2:decide ((st:Int)<=t)=true:=YaJ (by omega);clear ht
  go_enter func170,ntmps170
  go_wp2_with fail;((with_reducible refine HS.out.mono ?_);rintro e w1 ⟨rfl,rfl⟩);go_wp2_with fail;exact bodyPost_ret (v:=.tuple #[.int .i64 0,.int .i64 0,.bool false]) (by simp[results,results170,go_sem]) rfl ⟨rfl,rfl⟩
theorem Zq1(t:Nat)(os:List (List Int))(bl:List (Int×Int))(h:ZcB w base bs b st q E bl os)(ht:t<st)(hst:st<=1000)(hq:1<=q)(hq2:q<=1000) :
  Calls prog 170 #[.pointer (some ⟨bs,0,none⟩),.int .i64 t] w fun e w'=>e=.returned (.tuple #[.int .i64 ((t/q:Nat):Int),.int .i64 ((t%q:Nat):Int),.bool true])/\Bz0 w w':=by
 have HS:=hid (ZkT base bs b st q E w os bl h);obtain⟨_,Ab,cb,Ao,co,vs,hb,_,_,_⟩:=h;have c2:w.cell? ⟨bs,2,none⟩=some (.slice Ab q cb):=hb.cell 2;have l1:=hb.lt;clear hb;have e1:decide ((t:Int)<0)=false:=YaI (by omega);have e2:decide ((st:Int)<=(t:Int))=false:=YaI (by omega);have e3:decide (st<=t)=false:=YaI (by omega)
 go_enter func170,ntmps170
 go_wp2_with fail;((with_reducible refine HS.out.mono ?_);rintro e w1 ⟨rfl,rfl⟩);go_wp2_with fail;go_region;go_wp2;have hw1:wrap64 ((t:Int)/(q:Int))=(t:Int)/(q:Int):=by
  have hd:=Nat.div_le_self t q;rw[<-Int.natCast_ediv];generalize t/q=d at hd ⊢;exact IntWalk.wrap64_in _ (by omega)
 exact bodyPost_ret (v:=.tuple #[.int .i64 ((t/q:Nat):Int),.int .i64 ((t%q:Nat):Int),.bool true]) (by simp[results,results170,go_sem,hw1]) rfl ⟨rfl,(bR0 _ _).drew⟩
theorem ZoR{q b i:Nat}(hq:1<=q)(hb:1<=b)(hi:i<q)(hc:cnt (q*b) b=q):(Zat (q*b) b)[i]?=some (((i*b:Nat):Int),((i*b+b:Nat):Int)):=by
 rw[ZeE (q*b) b i (by rw[hc];exact hi)];have h1:(i+1)*b<=q*b:=YaW b hi;rw[Nat.succ_mul] at h1;rw[Nat.min_eq_left (by omega)]
theorem Zu7(t:Int)(os:List (List Int))(bl:List (Int×Int))(h:ZcB w base bs b st q E bl os)(ht:t<0\/st<=t) :
  Calls prog 86 #[.pointer (some ⟨bs,0,none⟩),.int .i64 t] w (Zdz w 0 []):=by
 have HS:=hid (Ztg base bs b st q E w t os bl h ht);clear h ht
 go_enter func86,ntmps86
 go_wp2_with fail;((with_reducible refine HS.out.mono ?_);rintro e w1 ⟨rfl,rfl⟩);go_wp2_with fail;go_ret;exact Zdz.none _ _ (bR0 _ _)
theorem Zth(t:Nat)(h:ZcB w base bs b st q E (Zat (q*b) b) (ZbU L n E))(ht:t<st)(hst:st<=1000)(hq:1<=q)(hq2:q<=1000)(hb1:1<=b)(hqb:q*b<=n)(hn:n<=1000)(hc:cnt (q*b) b=q)(hE:cnt st q=E) :
  Calls prog 86 #[.pointer (some ⟨bs,0,none⟩),.int .i64 t] w (Zdz w b (Za7 L n b q st t)):=by
 have HS:=hid (Zq1 base bs b st q E w t _ _ h ht hst hq hq2);obtain⟨_,Ab,cb,Ao,co,vs,hb,hrb,hro,hon⟩:=h;have hmq:t%q<q:=Nat.mod_lt _ (by omega);have hdE:t/q<E:=by
  rw[<-hE];refine(ZfD st q _ (by omega) hq).2 ?_;have:=Nat.div_mul_le_self t q;omega
 have HX:=hid (ZoR hq hb1 hmq hc);have hfit:t%q*b+b<=n:=by
  have h1:(t%q+1)*b<=q*b:=YaW b hmq;rw[Nat.succ_mul] at h1;omega
 have HBL:Hid (Za7 L n b q st t=((ZkO L n (t/q*(n-1))).drop (t%q*b)).take b):=hid (by
  rw[Za7,if_pos ⟨by omega,by omega⟩]
  rfl)
 obtain⟨e',he⟩:∃e',t/q=e':=⟨_,rfl⟩;obtain⟨i,hi⟩:∃i,t%q=i:=⟨_,rfl⟩;rw[he] at HS hdE HBL;rw[hi] at HS hmq HX hfit HBL;rw[HBL.out];obtain⟨lo,hlo⟩:∃lo,i*b=lo:=⟨_,rfl⟩;rw[hlo] at HX hfit HBL ⊢;obtain⟨s,hs⟩:∃s,vs[e']?=some s:=⟨_,YaA (by rw[hon.len,ZfQ];exact hdE)⟩;obtain⟨Ae,ne,ce⟩:=s;obtain⟨hne,hre⟩:=hon.row e' _ _ hs (ZkP L n E e' hdE);have hne':ne=n:=by rw[Zbw] at hne;exact hne
 subst hne';have HRE:=hid (Rd.of_own hre);have hce:ne<=ce:=by
  obtain⟨_,_,q1,q2,_,_⟩:=ZaF hre;injection q1 with q4 _ q5
  simp only at q5;subst q5;exact q2
 obtain⟨b1,o1,e1,hb1',c1⟩:=(Rd.of_own hro).2 (by omega);subst e1;have d1:=c1 e' _ (ZnE hs);obtain⟨b2,o2,x,y,rfl,hb2,hx,d2,d3⟩:=Zdn (by rw[Zan];exact hc) (Rd.of_own hrb) hmq;rw[HX.out] at hx;injection hx with hx
 injection hx with hx1 hx2
 subst hx1 hx2;have f2:w.cell? ⟨bs,2,none⟩=some (.slice (some ⟨b2,o2,none⟩) q cb):=hb.cell 2;have f3:w.cell? ⟨bs,3,none⟩=some (.slice (some ⟨b1,o1,none⟩) E co):=hb.cell 3;have l1:=hb.lt;have g1:(0:Int)<=(i:Int):=by omega
 have g2:(i:Int)<(q:Int):=by omega
 have g3:(0:Int)<=(e':Int):=by omega
 have g4:(e':Int)<(E:Int):=by omega
 have HLN:Hid ((ZkO L ne (e'*(ne-1))).length=ne):=hid (Zbw _ _ _);clear hb hrb hro hon hs hne hre c1 he hi hlo hE hc hqb
 go_enter func86,ntmps86
 go_wp2_with fail;((with_reducible refine HS.out.mono ?_);rintro e w1 ⟨rfl,hb9⟩);have HB9:=hid hb9;have f2':=((ZiO hb9).1 bs 2 l1).trans f2;have f3':=((ZiO hb9).1 bs 3 l1).trans f3;have d1':=((ZiO hb9).1 b1 (o1+e') hb1').trans d1;have d2':=((ZiO hb9).1 b2 (o2+i*2) hb2).trans d2;have d3':=((ZiO hb9).1 b2 (o2+i*2+1) hb2).trans d3;have l1':bs<w1.heap.size:=YaK l1 hb9.size;have l2':b1<w1.heap.size:=YaK hb1' hb9.size;have l3':b2<w1.heap.size:=YaK hb2 hb9.size;clear hb9 f2 f3 d1 d2 d3 l1 hb1' hb2;go_wp2_with fail;go_region;go_wp2;rw[show lo+b-lo=b by omega];go_ret;exact⟨_,_,rfl,YaF _,((Zq0 (HRE.out.below HB9.out) HLN.out lo b hfit).alloc _).drew,(HB9.out.alloc HB9.out.size _).drew⟩
structure Zuc(n b st q E:Nat):Prop where
 hq:1<=q
 hq2:q<=1000
 hb1:1<=b
 hbn:b<=n
 hqb:q*b<=n
 hn:n<=1000
 hst:st<=1000
 hc:cnt (q*b) b=q
 hE:cnt st q=E
 hdiv:n/b=q
theorem ZeZ{n b st q E:Nat}(P:Zuc n b st q E)(L:List Int)(t:Nat)(ht:t<st):(Za7 L n b q st t).length=b:=by
 have hmq:t%q<q:=Nat.mod_lt _ (by have:=P.hq;omega);have h1:(t%q+1)*b<=q*b:=YaW b hmq;rw[Nat.succ_mul] at h1;have hqb:=P.hqb;rw[Za7,if_pos ⟨by omega,by omega⟩];exact ZqV (Zbw _ _ _) _ _ (by show t%q*b+b<=n;omega)
theorem ZkU{n b st q:Nat}(L:List Int)(t:Int)(ht:t<0\/st<=t):Za7 L n b q st t=[]:=by
 rw[Za7,if_neg (by omega)]
theorem Zti(P:Zuc n b st q E)(t:Int)(h:ZcB w base bs b st q E (Zat (q*b) b) (ZbU L n E)) :
  Calls prog 86 #[.pointer (some ⟨bs,0,none⟩),.int .i64 t] w (Zdz w (Za7 L n b q st t).length (Za7 L n b q st t)):=by
 by_cases ht:0<=t/\t<st
 ·obtain⟨T,rfl⟩:=YaM ht.1;rw[ZeZ P L T (by omega)];exact Zth base bs b st q E n L w T h (by omega) P.hst P.hq P.hq2 P.hb1 P.hqb P.hn P.hc P.hE
 ·rw[ZkU L t (by omega)];exact Zu7 base bs b st q E w t _ _ h (by omega)
abbrev Zu8(w:World)(l:List Int):Ending->World->Prop:=Zal w 3 1 l.length (iv l)
theorem Zal.after{w w1:World}{e:TypeId}{size n:Nat}{xs:List Value}{en:Ending}{w':World}(h:Zal w1 e size n xs en w')(hb:Below w.heap.size w w1):Zal w e size n xs en w':=h.lift hb
theorem ZkV(l:List Int)(i k:Int):(ZaV l i k).length<=l.length:=by
 rw[ZaV]
 split
 ·simp;omega
 ·simp
theorem ZkW(P:Zuc n b st q E)(t i k j y:Int)(h:ZcB w base bs b st q E (Zat (q*b) b) (ZbU L n E))(hk:k<=1000)(hk0:-1000<=k)(hi:i<=1000)(hi0:-1000<=i)(hy:y<=1000)(hy0:-1000<=y)(hj:j<=1000)(hj0:-1000<=j) :
  Calls prog 24 #[.pointer (some ⟨bs,0,none⟩),.int .i64 t,.int .i64 i,.int .i64 k,.int .i64 j,.int .i64 y] w (Zu8 w (ZaV (ZaV (Za7 L n b q st t) i k) j y)):=by
 have C:=hid (Zti base bs b st q E n L w P t h);have hle:=ZkS L n b q st t P.hbn;have hn:=P.hn;clear h;obtain⟨l,hl⟩:∃l,Za7 L n b q st t=l:=⟨_,rfl⟩;rw[hl] at C hle ⊢;clear hl;have hple:=ZkV l i k;obtain⟨p,hp⟩:∃p,ZaV l i k=p:=⟨_,rfl⟩;rw[hp] at hple;have HP:=hid hp;rw[hp];clear hp;have hsle:=ZkV p j y;obtain⟨s,hs⟩:∃s,ZaV p j y=s:=⟨_,rfl⟩;rw[hs] at hsle;have HSS:=hid hs;rw[hs];clear hs;obtain⟨m,hm⟩:∃m,l.length=m:=⟨_,rfl⟩;have HM:=hid hm;rw[hm] at C hle hple;obtain⟨r,hr⟩:∃r,p.length=r:=⟨_,rfl⟩;have HRL:=hid hr;rw[hr] at hple hsle;obtain⟨r2,hr2⟩:∃r2,s.length=r2:=⟨_,rfl⟩;have HRL2:=hid hr2;rw[hr2] at hsle;rw[Zu8,hr2];clear hm hr hr2
 go_enter func24,ntmps24
 go_wp2_with fail;((with_reducible refine C.out.mono ?_);rintro e w1 ⟨A1,c1,rfl,hc1,hr1,hb1⟩);have HR:=hid hr1;have HB:=hid hb1;clear hr1 hb1;go_wp2_with fail;have C2:=ZkR A1 m c1 l i k w1 HM.out HR.out (by omega) hc1 hk hk0 hi hi0;rw[HP.out,HRL.out] at C2;((with_reducible refine C2.mono ?_);rintro e w2 ⟨A2,c2,rfl,hc2,hr2,hb2⟩);have HR2:=hid hr2;have HB2:=hid ((Zag.of HB.out).call hb2).2.2;clear hr2 hb2 C2;go_wp2_with fail;have C3:=ZkR A2 r c2 p j y w2 HRL.out HR2.out (by omega) hc2 hy hy0 hj hj0;rw[HSS.out,HRL2.out] at C3;((with_reducible refine C3.mono ?_);rintro e w3 ⟨A3,c3,rfl,hc3,hr3,hb3⟩);have HR3:=hid hr3;have HB3:=hid ((Zag.of HB2.out).call hb3).2.2;clear hr3 hb3 C3;go_wp2_with fail;((with_reducible refine(ZdM A3 r2 c3 s w3 HRL2.out HR3.out (by omega)).mono ?_);rintro e w4 ⟨A4,c4,rfl,hown4,hb4⟩);have HO:=hid (Zal.after (w:=w) ⟨A4,c4,rfl,hown4,hb4⟩ HB3.out);clear hown4 hb4;go_wp2_with fail;go_ret;exact HO.out
end
