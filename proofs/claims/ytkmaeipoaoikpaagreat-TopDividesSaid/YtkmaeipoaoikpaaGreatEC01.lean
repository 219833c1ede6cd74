/- Lemmas. -/
import Derived.WalkSpells
import Derived.WalkLawsBesides
import Derived.Lib.Hide
import Derived.BigQuiet
import Derived.Deep.RegionHeld3
import Derived.StillTail
namespace Go.Proofs.YtkmaeipoaoikpaaGreat
set_option linter.all false
set_option maxRecDepth 100000
open Lib (hid)
open Go.RowKit
theorem YaA{α:Type}{l:List α}{i:Nat}(h:i<l.length):l[i]?=some l[i]:=List.getElem?_eq_getElem h
theorem YaB{α:Type}{a:α}{l:List α}{i:Nat}:(a::l)[i+1]?=l[i]?:=rfl
theorem YaC{α:Type}{a:α}{l:List α}:(a::l)[0]?=some a:=rfl
theorem YaD{α:Type}{l:List α}{i:Nat}:l.toArray[i]?=l[i]?:=List.getElem?_toArray
theorem YaE{α β:Type}(a:α)(f:α→Option β):(some a).bind f=f a:=rfl
theorem YaF(n:Nat):n≤n:=Nat.le_refl n
theorem YaG{α:Type}{l:List α}{i:Nat}{a:α}:l[i]?=some a↔∃h:i<l.length, l[i]=a:=List.getElem?_eq_some_iff
theorem YaH{n m k:Nat}(h:n≤m)(g:m≤k):n≤k:=Nat.le_trans h g
theorem YaI{p:Prop}[Decidable p](h:¬p):decide p=false:=decide_eq_false h
theorem YaJ{p:Prop}[Decidable p](h:p):decide p=true:=decide_eq_true h
theorem YaK{n m k:Nat}(h:n<m)(g:m≤k):n<k:=Nat.lt_of_lt_of_le h g
theorem YaL{α:Type}{l:List α}{i:Nat}{a:α}(h:l[i]?=some a):a∈l:=List.mem_of_getElem? h
theorem YaM{a:Int}(h:0≤a):∃n:Nat, a=n:=Int.eq_ofNat_of_zero_le h
theorem YaN{α:Type}{l:List α}{i:Nat}(h:l.length≤i):l[i]?=none:=List.getElem?_eq_none h
theorem YaO{α β:Type}{f:α→Option β}{a:α}{l:List α}:(a::l).filterMap f=match f a with|none=>l.filterMap f|some b=>b::l.filterMap f:=List.filterMap_cons
theorem YaP{α β:Type}{f:α→Option β}:([]:List α).filterMap f=[]:=rfl
theorem YaQ(a b:Bool):((a && b)=true)=(a=true∧b=true):=Bool.and_eq_true a b
theorem YaR{α β:Type}{f:α→β}{l:List α}{i:Nat}:(l.map f)[i]?=l[i]?.map f:=List.getElem?_map
theorem YaS{α:Type}{l k:List α}:(l++k).length=l.length+k.length:=List.length_append
theorem YaT{α:Type}{l:List α}{i:Nat}{a:α}:l.getD i a=l[i]?.getD a:=List.getD_eq_getElem?_getD
theorem YaU{α:Type}{l k:List α}{n:Nat}(h:l.length≤n):(l++k)[n]?=k[n-l.length]?:=List.getElem?_append_right h
theorem YaV{α:Type}{l k:List α}{n:Nat}(h:n<l.length):(l++k)[n]?=l[n]?:=List.getElem?_append_left h
theorem YaW{m n:Nat}(k:Nat)(h:m≤n):m*k≤n*k:=Nat.mul_le_mul_right k h
theorem YaX{α:Type}{i:Nat}{l:List α}(h:l.length≤i):l.take i=l:=List.take_of_length_le h
theorem YaY{α:Type}(a b c:List α):a++b++c=a++(b++c):=List.append_assoc a b c
abbrev Bz0(a b:World):Prop:=Below a.heap.size a b
theorem bR0(n:Nat)(w:World):Below n w w:=Below.refl n w
theorem bT0{a b c:World}(h:Below a.heap.size a b)(k:Below b.heap.size b c):Below a.heap.size a c:=h.trans (k.mono h.size)
theorem bA0{w:World}(o:Obj):Below w.heap.size w (w.alloc o):=(bR0 _ _).alloc (Nat.le_refl _) o
theorem ZaG{k:IntKind}{a b:Int}(h:a=b):Ending.returned (.int k a)=.returned (.int k b):=by rw[h]
theorem Zao{a b:Bool}(h:a=b):Ending.returned (.bool a)=.returned (.bool b):=by rw[h]
theorem ZeA{a b c:Value}(h:a=b):Ending.returned (.tuple #[a,c])=.returned (.tuple #[b,c]):=by rw[h]
theorem ZiO{W w1:World}(hb:Below W.heap.size W w1):(∀b o,b<W.heap.size->w1.cell? ⟨b,o,none⟩=W.cell? ⟨b,o,none⟩)/\(∀b o,b<W.heap.size->w1.frozen? ⟨b,o,none⟩=W.frozen? ⟨b,o,none⟩):=
 ⟨fun b o h=>hb.cell (p:=⟨b,o,none⟩) h,fun b o h=>hb.frozen (p:=⟨b,o,none⟩) h⟩
abbrev Zag(W0 w':World):Prop:=(∀b o,b<W0.heap.size->w'.cell? ⟨b,o,none⟩=W0.cell? ⟨b,o,none⟩)/\W0.heap.size<=w'.heap.size/\Below W0.heap.size W0 w'
theorem Zag.of{W0 w':World}(h:Below W0.heap.size W0 w'):Zag W0 w':=⟨(ZiO h).1,h.size,h⟩
theorem Zag.drewN{W0 w:World}(h:Zag W0 w)(n:Nat):Zag W0 (w.drewN n):=Zag.of (below_drewN h.2.2 n)
theorem Zh2{w:World}{p:Addr}{v:Value}(h:w.cell? p=some v)(n:Nat):(w.drewN n).cell? p=some v:=h
theorem ZbB{w:World}{base:Nat}{e:TypeId}{size:Nat}{v:Value}{n:Nat}{xs:List Value}(h:w.ownsRow base e size v n xs)(k:Nat):(w.drewN k).ownsRow base e size v n xs:=h
theorem Zag.drew{W0 w:World}(h:Zag W0 w):Zag W0 w.drew:=Zag.of h.2.2.drew
theorem Zag.start(W0:World):Zag W0 W0.drew:=Zag.of (bR0 _ _).drew
theorem Zag.alloc{W0 w:World}(h:Zag W0 w)(o:Obj):Zag W0 (w.alloc o):=Zag.of (h.2.2.alloc h.2.1 o)
theorem Zag.call{W0 w w1:World}(h:Zag W0 w)(hb:Below w.heap.size w w1):Zag W0 w1:=Zag.of (h.2.2.trans (hb.mono h.2.1))
theorem Zag.call_alloc{W0 w w1:World}{o:Obj}(h:Zag W0 w)(hb:Below (w.heap.size+1) (w.alloc o) w1):Zag W0 w1:=(h.alloc o).call (by simpa using hb)
structure KW(W0:World) where
 w:World
 h:Zag W0 w
instance (W0:World):Nonempty (KW W0):=⟨⟨W0,Zag.of (bR0 _ _)⟩⟩
theorem KW.cells{W0:World}(u:KW W0)(b o:Nat)(h:b<W0.heap.size):u.w.cell? ⟨b,o,none⟩=W0.cell? ⟨b,o,none⟩:=u.h.1 b o h
theorem ZaK{P:Program}{id:Nat}{Q:Exit->Act->World->Prop}{a:Act}{w:World}{l:List Oper}(W0:World)(hm:P.follows .mixedOrders=true)(hB:Region.lexB .any l.toArray=true)(hk:Zag W0 w)
  (h:wpQuiet P l.toArray (fun w'=>∃u:KW W0,w'=u.w) (fun a'=>∀w',(∃u:KW W0,w'=u.w)->Q .normal a' w') l a):(Code.region id l.toArray true).wp P Q a w:=
 wp_region_quiet (C:=fun w'=>∃u:KW W0,w'=u.w) hm hB ⟨⟨_,hk.drew⟩,rfl⟩ (by simpa using h)
theorem ZbC{P:Program}{f:FuncId}{args:Array Value}{W0:World}{u:KW W0}{v:Value}(h:Calls P f args u.w fun e w'=>e=.returned v/\Below u.w.heap.size u.w w') :
  Calls P f args u.w fun e w''=>e=.returned v/\∃u':KW W0,w''=u'.w:=
 h.mono fun _ w' ⟨he,hb⟩=>⟨he,⟨w',u.h.call hb⟩,rfl⟩
theorem ZeB{P:Program}{f:FuncId}{args:Array Value}{W0:World}{u:KW W0}{v:Value}(h:Calls P f args u.w fun e w'=>e=.returned v/\u.w=w') :
  Calls P f args u.w fun e w''=>e=.returned v/\∃u':KW W0,w''=u'.w:=
 h.mono fun _ w' ⟨he,hb⟩=>⟨he,u,hb.symm⟩
structure Sl(P:Program)(t e:TypeId)(z:Value)(size bytes:Nat):Prop where
 slice:P.underlying t=some (.slice e)
 info:(P.info? e).map (fun i=>(i.zero,i.size,i.bytes))=some (some z,size,bytes)
 cells:z.cells.size=size
 pos:0<size
def Zal(w:World)(e:TypeId)(size n:Nat)(xs:List Value)(en:Ending)(w':World):Prop:=
 ∃A cap,en=.returned (.slice A n cap)/\w'.ownsRow w.heap.size e size (.slice A n cap) n xs/\Below w.heap.size w w'
theorem Zal.lift{w W:World}{e:TypeId}{size n:Nat}{xs:List Value}{en:Ending}{w':World}(h:Zal W e size n xs en w')(hb:Below w.heap.size w W):Zal w e size n xs en w':=by
 obtain⟨A,cap,he,hown,hb'⟩:=h;refine⟨A,cap,he,⟨hown.1,?_⟩,bT0 hb hb'⟩
 rcases hown.2 with h2|⟨g,cap,cur,h1,hg,r⟩
 ·exact .inl h2
 ·exact .inr ⟨g,cap,cur,h1,YaH hb.size hg,r⟩
theorem ZaF{w:World}{base:Nat}{e:TypeId}{size:Nat}{v:Value}{n:Nat}{xs:List Value}(h:w.ownsRow base e size v n xs):∃A cap,v=.slice A n cap/\n<=cap/\cap<=maxLen/\(0<n->∃g,A=some ⟨g,0,none⟩/\base<=g/\g<w.heap.size):=by
 have hlt:=h.lt
 rcases h.2 with⟨rfl,rfl⟩|⟨g,cap,cur,rfl,hg,hh,h1,h2,_⟩
 ·exact⟨none,0,rfl,YaF _,Nat.zero_le _,fun h=>absurd h (by omega)⟩
 ·exact⟨some ⟨g,0,none⟩,cap,rfl,h1,h2,fun _=>⟨g,rfl,hg,(hlt g rfl).2⟩⟩
theorem Zac{w w':World}{base:Nat}{e:TypeId}{size:Nat}{v:Value}{n:Nat}{xs:List Value}(h:w.ownsRow base e size v n xs)(hb:Below w.heap.size w w'):w'.ownsRow base e size v n xs:=
 h.kept (row:=none) ⟨hb.os,hb.tape,hb.output,hb.size,fun k hk _=>hb.block k hk⟩ (by
  cases hv:v.ownBlock with
  |none=>exact .inl rfl
  |some k=>exact .inr (by simp))
theorem Zae{w:World}{base base':Nat}{e:TypeId}{size:Nat}{v:Value}{n:Nat}{xs:List Value}(h:w.ownsRow base e size v n xs)(hb:base'<=base):w.ownsRow base' e size v n xs:=by
 refine⟨h.1,?_⟩
 rcases h.2 with h2|⟨g,cap,cur,h1,hg,r⟩
 ·exact .inl h2
 ·exact .inr ⟨g,cap,cur,h1,YaH hb hg,r⟩
theorem Zdi(w:World)(cs:Array Value)(t:TypeId):∀j u,cs.toList[j]?=some u->(w.alloc (.cells cs t)).cell? ((⟨w.heap.size,0,none⟩:Addr).add j)=some u:=by
 intro j u h;have e:((⟨w.heap.size,0,none⟩:Addr).add j)=⟨w.heap.size,j,none⟩:=by
  unfold Addr.add
  by_cases hj:j=0<;>simp[hj]
 rw[e];have hh:(w.alloc (.cells cs t)).heap[w.heap.size]?=some (.cells cs t (0,0)):=by
  show (w.heap.push _)[w.heap.size]?=_
  simp
 rw[cell_of_row _ _ _ _ _ _ hh,<-h];simp
theorem Zav{P:Program}{w:World}{ops:Array Oper}{rest:List Oper}{o:Oper}{a:Act}{Q:Exit->Act->World->Prop}{t e:TypeId}{z:Value}{size bytes:Nat}
  (sl:Sl P t e z size bytes) (hgd:o.guard=none) (s x:Operand) (ho:o.op=.call { callee:=.builtin .append,args:=#[s,x],argTypes:=#[t,t] })
  (base:Nat) (v:Value) (n:Nat) (xs:List Value) (hs:a.eval s=v) (hown:w.ownsRow base e size v n xs)
  (news:Array Value) (g:Nat) (hx:a.eval x=.slice (some ⟨g,0,none⟩) 1 1) (hg:g=w.heap.size) (hl:news.size=size) (h1:∀u∈news.toList,u.oneCell'=true)
  (h63:n+1<=maxLen) (hbytes:(n+1)*bytes<=140737488355328) (hbase:base<=w.heap.size)
  (h:∀A' cap' w',w'.ownsRow base e size (.slice A' (n+1) cap') (n+1) (xs++news.toList)->Below base w w'->wpList P ops Q rest (a.put o.dst (.slice A' (n+1) cap')) w') :
  wpList P ops Q (o::rest) a (w.alloc (.cells news e)):=by
 subst hg;obtain⟨i,hi,hz0,hz1,hz2⟩:=info_parts sl.info;refine wpList_append_own _ hgd s x t ho base e i z size bytes sl.slice hi hz0 hz1 hz2 sl.cells sl.pos v n xs hs (hown.alloc _) ⟨w.heap.size,0,none⟩ 1 1 news.toList hx (by simpa using hl) (Zdi w news e) h1 h63 hbytes (by simp;omega) ?_;intro v' w' h2 h3 _;obtain⟨A,cap,rfl,_⟩:=ZaF h2;refine h A cap w' h2 (((bR0 _ _).alloc hbase _).grown h3 (by simp;omega) fun k hk=>(hown.lt k hk).1)
section
variable{P:Program}{ops:Array Oper}{md:Region.Mode}{C:World→Prop}{Q:Exit→Act→World→Prop}
def Zdj(P:Program)(ops:Array Oper)(next:Act->Prop):List Nat->Act->Prop
 |[],a=>next a
 |e::es,a=>∃o v,ops[e]?=some o/\Yields P ops o v a/\Zdj P ops next es (a.put o.dst v)
def Zpy(md:Region.Mode)(ops:Array Oper):List Nat->Array Bool->Bool
 |[],_=>true
 |e::es,listed=>(Region.ready md ops listed).contains e && Region.free md ops listed e && Zpy md ops es (listed.setIfInBounds e true)
def Zam(listed:Array Bool)(es:List Nat):Array Bool:=es.foldl (fun l e=>l.setIfInBounds e true) listed
theorem Zna(hs:Region.noSelect ops=true){fuel:Nat}{w:World}{next:Act->Prop}(es:List Nat):∀(listed:Array Bool) (a:Act),Zpy md ops es listed=true ->
  (∀a',next a'->wpAny P md ops (NoPanic Q) fuel (Zam listed es) a' w)->Zdj P ops next es a->wpAny P md ops (NoPanic Q) (es.length+fuel) listed a w:=by
 induction es with
 |nil=>intro listed a _ hn h;rw[List.length_nil,Nat.zero_add];exact hn a h
 |cons e es ih=>
  intro listed a hB hn h;simp only[Zpy,YaQ] at hB;obtain⟨o,v,ho,hy,h⟩:=h;rw[List.length_cons,show es.length+1+fuel=(es.length+fuel)+1 by omega];exact wpAny_take ho hs hB.1.2 hB.1.1 (fun _ _ _ h=>h) hy (ih _ _ hB.2 hn h)
def Zgp(P:Program)(md:Region.Mode)(ops:Array Oper)(C:World->Prop)(H:List Nat)(L:Array Bool->Act->Prop):Nat->Array Bool->Act->Prop
 |0,listed,a=>L listed a
 |f+1,listed,a=>Region.ready md ops listed≠[]/\∀i∈Region.ready md ops listed,i∈H/\qOp P ops C i (Zgp P md ops C H L f (listed.setIfInBounds i true)) a
theorem Zgp.any{H:List Nat}{g:Nat}{L:Array Bool->Act->Prop}{Q':Exit->Act->World->Prop}(hL:∀listed a w,C w->L listed a->wpAny P md ops Q' g listed a w)(f:Nat) :
  ∀(listed:Array Bool) (a:Act) (w:World),C w->Zgp P md ops C H L f listed a->wpAny P md ops Q' (f+g) listed a w:=by
 induction f with
 |zero=>intro listed a w hw h;rw[Nat.zero_add];exact hL _ _ _ hw h
 |succ f ih=>
  intro listed a w hw h;rw[show f+1+g=(f+g)+1 by omega];exact⟨fun h0=>absurd h0 h.1,fun i hi=>wpOp_of_qOp hw (fun a' w' hw' h'=>ih _ a' w' hw' h') (h.2 i hi).2⟩
def Zpz(md:Region.Mode)(ops:Array Oper)(t0:Nat)(H:List Nat):Bool:=H.all fun h=>(t0::H).any fun j=>decide (h<j) && Region.waitsFor md ops j h
def Zgq(md:Region.Mode)(ops:Array Oper):Nat->List Nat->Bool
 |_,[]=>true
 |t,u::us=>Region.waitsFor md ops u t && Zgq md ops u us
def Znb(ops:Array Oper)(E H T:List Nat):Bool:=(List.range ops.size).all fun i=>E.contains i || H.contains i || T.contains i
def ZvO(H T:List Nat):Bool:=T.all fun t=>!H.contains t
structure ZiP(md:Region.Mode)(ops:Array Oper)(E T:List Nat)(listed:Array Bool):Prop where
 size:listed.size=ops.size
 closed:∀j oj,ops[j]?=some oj->listed.getD j false=true->∀e∈oj.after,Region.binds md e=true->listed.getD e.on false=true
 early:∀e∈E,listed.getD e true=true
 late:∀t∈T,listed.getD t false=false
theorem ZiP.set{E T:List Nat}{listed:Array Bool}{i:Nat}(inv:ZiP md ops E T listed)(hi:i∈Region.ready md ops listed)(hT:i ∉ T):ZiP md ops E T (listed.setIfInBounds i true):=by
 obtain⟨_,oi,hoi,hall⟩:=mem_ready.1 hi;refine⟨by simp[inv.size],fun j oj hj hl e he hb=>?_,fun e he=>?_,fun t ht=>?_⟩
 ·by_cases hij:i=j
  ·subst hij;have:oj=oi:=Option.some.inj (hj.symm.trans hoi);subst this;exact getD_set_true (hall e he hb)
  ·rw[getD_set_ne false hij] at hl;exact getD_set_true (inv.closed j oj hj hl e he hb)
 ·by_cases hie:i=e
  ·subst hie;have hlt:i<listed.size:=by rw[inv.size];exact(Array.getElem?_eq_some_iff.1 hoi).1
   simp[hlt]
  ·rw[getD_set_ne true hie];exact inv.early e he
 ·rw[getD_set_ne false (by rintro rfl;exact hT ht)];exact inv.late t ht
theorem Zhp{E H T:List Nat}{t0:Nat}{listed:Array Bool}(hs:Zpz md ops t0 H=true)(hsz:∀h∈H,h<ops.size)(inv:ZiP md ops E T listed) :
  ∀(d h:Nat),ops.size-h=d->h∈H->listed.getD h true=false->t0 ∉ Region.ready md ops listed:=by
 intro d
 induction d using Nat.strongRecOn with
 |_ d ih=>
  intro h hd hh hun hr;obtain⟨_,ot,hot,hall⟩:=mem_ready.1 hr;obtain⟨j,hj,hj2⟩:=List.any_eq_true.1 (List.all_eq_true.1 hs h hh);simp only[YaQ,decide_eq_true_eq] at hj2;obtain⟨oj,hoj,e,he,hb,hon⟩:=Region.waitsFor_spec hj2.2
  rcases List.mem_cons.1 hj with rfl|hjH
  ·have:oj=ot:=Option.some.inj (hoj.symm.trans hot);subst this;have h2:=hall e he hb;rw[hon,getD_both hun] at h2
   cases h2
  ·cases hl:listed.getD j false with
   |true=>
    have h2:=inv.closed j oj hoj hl e he hb;rw[hon,getD_both hun] at h2
    cases h2
   |false=>
    have hjs:j<ops.size:=hsz j hjH;exact ih (ops.size-j) (by omega) j rfl hjH (getD_in (by rw[inv.size];exact hjs) hl) hr
theorem Zgr{E T:List Nat}{listed:Array Bool}(inv:ZiP md ops E T listed):∀(us:List Nat) (t:Nat),Zgq md ops t us=true->(∀u∈t::us,u∈T)->∀u∈us,u ∉ Region.ready md ops listed:=by
 intro us
 induction us with
 |nil=>intro t _ _ u hu;cases hu
 |cons x us ih=>
  intro t hc hT u hu hr;simp only[Zgq,YaQ] at hc
  rcases List.mem_cons.1 hu with rfl|hu
  ·obtain⟨o',ho',e,he,hb,hon⟩:=Region.waitsFor_spec hc.1;obtain⟨_,ot,hot,hall⟩:=mem_ready.1 hr;have:o'=ot:=Option.some.inj (ho'.symm.trans hot);subst this;have h2:=hall e he hb;rw[hon,inv.late t (hT t (by simp))] at h2
   cases h2
  ·exact ih x hc.2 (fun y hy=>hT y (List.mem_cons_of_mem _ hy)) u hu hr
theorem ZdK{E H us:List Nat}{t0:Nat}{listed:Array Bool}(hs:Zpz md ops t0 H=true)(hsz:∀h∈H,h<ops.size)(hc:Zgq md ops t0 us=true)(hcov:Znb ops E H (t0::us)=true)(inv:ZiP md ops E (t0::us) listed)
  {h:Nat} (hh:h∈H) (hun:listed.getD h true=false):∀j∈Region.ready md ops listed,j∈H:=by
 intro j hj;obtain⟨hjun,oj,hoj,_⟩:=mem_ready.1 hj;have h1:=List.all_eq_true.1 hcov j (List.mem_range.2 (Array.getElem?_eq_some_iff.1 hoj).1);simp only[Bool.or_eq_true,List.contains_iff_mem] at h1
 rcases h1 with(h1|h1)|h1
 ·rw[inv.early j h1] at hjun;cases hjun
 ·exact h1
 ·rcases List.mem_cons.1 h1 with rfl|h1
  ·exact absurd hj (Zhp hs hsz inv _ h rfl hh hun)
  ·exact absurd hj (Zgr inv us t0 hc (fun _ h=>h) j h1)
theorem Zgp.first{E H us:List Nat}{t0 i:Nat}{oi:Oper}{v:Value}{L:Array Bool->Act->Prop}(hi:ops[i]?=some oi)(hsel:∀(j:Nat) (o:Oper) cs b,ops[j]?=some o->o.op≠.select cs b)
  (hs:Zpz md ops t0 H=true) (hsz:∀h∈H,h<ops.size) (hc:Zgq md ops t0 us=true) (hcov:Znb ops E H (t0::us)=true) (hap:∀h∈H,h ∉ t0::us) (hin:i∈H)
  (hdone:∀listed a,L listed a->∀j∈Region.ready md ops listed,j ∉ H) (f:Nat) :
  ∀(listed:Array Bool) (a:Act),ZiP md ops E (t0::us) listed ->
   (∀j oj,ops[j]?=some oj->j≠i->listed.getD j true=false->(∀e∈oj.after,Region.binds md e=true->e.on≠i)->oi.apart ops oj=true) ->
   i∈Region.ready md ops listed->YieldsIn P ops C oi v a ->
   Zgp P md ops C H L f (listed.setIfInBounds i true) (a.put oi.dst v)->Zgp P md ops C H L (f+1) listed a:=by
 induction f with
 |zero=>
  intro listed a inv _ hr hy K;refine⟨List.ne_nil_of_mem hr,fun j hj=>⟨ZdK hs hsz hc hcov inv hin (mem_ready.1 hr).1 j hj,?_⟩⟩
  by_cases hji:j=i
  ·subst hji;exact hy.qOp hi K
  ·exact absurd (ZdK hs hsz hc hcov inv hin (mem_ready.1 hr).1 j hj) (hdone _ _ K j (ready_mono hj hji))
 |succ f ih=>
  intro listed a inv hfree hr hy K;refine⟨List.ne_nil_of_mem hr,fun j hj=>⟨ZdK hs hsz hc hcov inv hin (mem_ready.1 hr).1 j hj,?_⟩⟩
  by_cases hji:j=i
  ·subst hji;exact hy.qOp hi K
  ·have hun:=(mem_ready.1 hr).1;have hjH:=ZdK hs hsz hc hcov inv hin hun j hj;obtain⟨hjun,oj,hoj,hall⟩:=mem_ready.1 hj;have hnot:∀e∈oj.after,Region.binds md e=true->e.on≠i:=fun e he hb heq=>by
    have h1:=hall e he hb;rw[heq,getD_both hun] at h1
    cases h1
   have h2:=qOp_put hoj (hfree j oj hoj hji hjun hnot) (fun cs b=>hsel i oi cs b hi) (fun cs b=>hsel j oj cs b hoj) hy (K.2 j (ready_mono hj hji)).2;refine qOp_mono (fun a' h3=>ih (listed.setIfInBounds j true) a' (inv.set hj (hap j hjH)) (fun k ok hk hki hunk hno=>hfree k ok hk hki ?_ hno) (ready_mono hr (Ne.symm hji)) h3.1 ?_) h2
   ·by_cases hjk:j=k
    ·subst hjk;exact hjun
    ·rwa [getD_set_ne true hjk] at hunk
   ·rw[Array.setIfInBounds_comm _ _ hji];exact h3.2
def ZlA(md:Region.Mode)(ops:Array Oper):List Nat->Array Bool->Bool
 |[],listed=>(Region.ready md ops listed).isEmpty
 |t::ts,listed=>decide (Region.ready md ops listed=[t]) && ZlA md ops ts (listed.setIfInBounds t true)
def ZwQ(md:Region.Mode)(ops:Array Oper)(T:List Nat):List Nat->Array Bool->Bool
 |[],listed=>ZlA md ops T listed
 |h::hs,listed=>(Region.ready md ops listed).contains h && Region.free md ops listed h && ZwQ md ops T hs (listed.setIfInBounds h true)
theorem Zgp.lex{E H us:List Nat}{t0:Nat}{Lq:Act->Prop}(hsel:Region.noSelect ops=true)(hs:Zpz md ops t0 H=true)(hsz:∀h∈H,h<ops.size)(hc:Zgq md ops t0 us=true)(hcov:Znb ops E H (t0::us)=true)(hap:∀h∈H,h ∉ t0::us)(hx:List Nat) :
  ∀(lx:List Oper) (listed:Array Bool) (a:Act),(∀h∈hx,h∈H)->hx.map (ops[·]?)=lx.map some->ZiP md ops E (t0::us) listed->ZwQ md ops (t0::us) hx listed=true->wpQuiet P ops C Lq lx a ->
   Zgp P md ops C H (fun listed' a'=>ZlA md ops (t0::us) listed'=true/\Lq a') hx.length listed a:=by
 induction hx with
 |nil=>
  intro lx listed a _ hm _ hB h
  cases lx with
  |nil=>exact⟨hB,h⟩
  |cons _ _=>simp at hm
 |cons i hx ih=>
  intro lx listed a hH hm inv hB h
  cases lx with
  |nil=>simp at hm
  |cons o lx=>
   simp only[List.map_cons,List.cons.injEq] at hm;simp only[ZwQ,YaQ] at hB;obtain⟨⟨hr,hf⟩,hB'⟩:=hB;have hr':i∈Region.ready md ops listed:=by simpa using hr
   have hst:qOp P ops C i (wpQuiet P ops C Lq lx) a:=by unfold qOp;simp only[hm.1];exact h
   obtain⟨v,hy,hK⟩:=yieldsIn_of_qOp hm.1 hst;refine Zgp.first hm.1 (Region.noSelect_spec hsel) hs hsz hc hcov hap (hH i (by simp)) (fun listed' a' hL j hj hjH=>?_) hx.length listed a inv (Region.free_spec hm.1 hf) hr' hy
    (ih lx _ _ (fun h hh=>hH h (by simp[hh])) hm.2 (inv.set hr' (hap i (hH i (by simp)))) hB' hK)
   have h1:=hL.1;simp only[ZlA,YaQ,decide_eq_true_eq] at h1;rw[h1.1] at hj;have:j=t0:=by simpa using hj
   subst this;exact hap j hjH (by simp)
theorem Znc{Q':Exit->Act->World->Prop}(ts:List Nat):∀(lt:List Oper) (listed:Array Bool) (a:Act) (w:World),ts.map (ops[·]?)=lt.map some->ZlA md ops ts listed=true->wpList P ops Q' lt a w->wpAny P md ops Q' ts.length listed a w:=by
 induction ts with
 |nil=>
  intro lt listed a w hm hB h
  cases lt with
  |nil=>exact⟨by simpa [ZlA] using hB,h⟩
  |cons _ _=>simp at hm
 |cons t ts ih=>
  intro lt listed a w hm hB h
  cases lt with
  |nil=>simp at hm
  |cons o lt=>
   simp only[List.map_cons,List.cons.injEq] at hm;simp only[ZlA,YaQ,decide_eq_true_eq] at hB;refine⟨fun h1=>(by rw[hB.1] at h1;cases h1),fun i hi=>?_⟩;rw[hB.1] at hi;have hik:i=t:=by simpa using hi
   subst hik;have hw:wpOp P ops Q' i (wpList P ops Q' lt) a w:=by unfold wpOp;simp only[hm.1];exact h
   exact wpOp_mono (fun a' w' h'=>ih lt _ a' w' hm.2 hB.2 h') hw
end
def Zt0(ops:Array Oper)(E H:List Nat)(t0:Nat)(us:List Nat):Bool:=
 Region.noSelect ops && Zpy .any ops E (Array.replicate ops.size false) && Zpz .any ops t0 H && Zgq .any ops t0 us && Znb ops E H (t0::us) && ZvO H (t0::us) && H.all (fun h=>decide (h<ops.size)) &&
  ZwQ .any ops (t0::us) H (Zam (Array.replicate ops.size false) E) && decide (E.length+(H.length+(us.length+1))=ops.size) && (t0::us).all (fun t=>!E.contains t) && E.all (fun e=>decide (e<ops.size) && (match ops[e]? with|some o=>o.after.all (fun x=>!Region.binds .any x || E.contains x.on)|none=>false))
theorem Zc5{size:Nat}(es:List Nat):∀(listed:Array Bool),listed.size=size->∀e,(e∈es\/listed.getD e false=true)->e<size->(Zam listed es).getD e true=true:=by
 induction es with
 |nil=>
  intro listed hs e h he
  rcases h with h|h
  ·cases h
  ·show listed.getD e true=true
   cases h2:listed.getD e true with
   |true=>rfl
   |false=>rw[getD_both h2] at h;cases h
 |cons x es ih=>
  intro listed hs e h he;refine ih (listed.setIfInBounds x true) (by simp[hs]) e ?_ he
  by_cases hxe:x=e
  ·subst hxe;right;simp[hs,he]
  ·rcases h with h|h
   ·exact .inl (by simpa [Ne.symm hxe] using h)
   ·exact .inr (getD_set_true h)
theorem Zc6(es:List Nat):∀(listed:Array Bool) (t:Nat),t ∉ es->(Zam listed es).getD t false=listed.getD t false:=by
 induction es with
 |nil=>intro listed t _;rfl
 |cons x es ih=>
  intro listed t ht
  show (Zam (listed.setIfInBounds x true) es).getD t false=_
  rw[ih _ t (fun h=>ht (by simp[h])),getD_set_ne false (fun e=>ht (by simp[e]))]
theorem ZfB(es:List Nat):∀(listed:Array Bool),(Zam listed es).size=listed.size:=by
 induction es with
 |nil=>intro listed;rfl
 |cons x es ih=>intro listed;show (Zam (listed.setIfInBounds x true) es).size=_;rw[ih];simp
theorem ZpA{P:Program}{Q:Exit->Act->World->Prop}{a:Act}{w:World}{l:List Oper}(W0:World)(E H:List Nat)(t0:Nat)(us:List Nat)(lh lt:List Oper)(hB:Zt0 l.toArray E H t0 us=true)
  (hlh:H.map (l.toArray[·]?)=lh.map some) (hlt:(t0::us).map (l.toArray[·]?)=lt.map some) (hk:Zag W0 w)
  (h:Zdj P l.toArray (fun a'=>wpQuiet P l.toArray (fun w'=>∃u:KW W0,w'=u.w) (fun a''=>∀u:KW W0,wpList P l.toArray (NoPanic Q) lt a'' u.w) lh a') E a):wpAny P .any l.toArray (NoPanic Q) l.toArray.size (Array.replicate l.toArray.size false) a w.drew:=by
 simp only[Zt0,YaQ,decide_eq_true_eq] at hB;obtain⟨⟨⟨⟨⟨⟨⟨⟨⟨⟨hsel,hpu⟩,hs⟩,hc⟩,hcov⟩,hap⟩,hsz⟩,hlex⟩,hlen⟩,hTE⟩,hE⟩:=hB;have hsz':∀h∈H,h<l.toArray.size:=fun h hh=>by simpa using List.all_eq_true.1 hsz h hh
 have hap':∀h∈H,h ∉ t0::us:=fun h hh ht=>by
  have:=List.all_eq_true.1 hap h ht;simp only[Bool.not_eq_true',<-Bool.not_eq_true,List.contains_iff_mem] at this;exact this hh
 have inv0:ZiP .any l.toArray E (t0::us) (Zam (Array.replicate l.toArray.size false) E):=by
  refine⟨by rw[ZfB];simp,fun j oj hj hl e he hb=>?_,fun e he=>?_,fun t ht=>?_⟩
  ·have hjE:j∈E:=by
    by_cases hjE:j∈E
    ·exact hjE
    ·rw[Zc6 E _ j hjE,getD_replicate_false] at hl;cases hl
   have h1:=List.all_eq_true.1 hE j hjE;simp only[hj,YaQ,decide_eq_true_eq] at h1;have h2:=Array.all_eq_true_iff_forall_mem.1 h1.2 e he;simp only[hb,Bool.not_true,Bool.false_or,List.contains_iff_mem] at h2;have h3:=List.all_eq_true.1 hE e.on h2;simp only[YaQ,decide_eq_true_eq] at h3;have h4:=Zc5 (size:=l.toArray.size) E (Array.replicate l.toArray.size false) (by simp) e.on (.inl h2) h3.1;have h5:e.on<(Zam (Array.replicate l.toArray.size false) E).size:=by rw[ZfB];simpa using h3.1
   cases hx:(Zam (Array.replicate l.toArray.size false) E).getD e.on false with
   |true=>rfl
   |false=>rw[getD_in h5 hx] at h4;cases h4
  ·have h3:=List.all_eq_true.1 hE e he;simp only[YaQ,decide_eq_true_eq] at h3;exact Zc5 (size:=l.toArray.size) E _ (by simp) e (.inl he) h3.1
  ·have h3:=List.all_eq_true.1 hTE t ht;rw[Zc6 E _ t (by simpa using h3),getD_replicate_false]
 have h2:=Zna (P:=P) (md:=.any) (Q:=Q) (w:=w.drew) hsel (fuel:=H.length+(us.length+1)) E _ a hpu (fun a' h'=>?_) h
 ·rw[show E.length+(H.length+(us.length+1))=l.toArray.size from hlen] at h2;exact h2
 ·have K:=Zgp.lex (P:=P) (C:=fun w'=>∃u:KW W0,w'=u.w) hsel hs hsz' hc hcov hap' H lh _ a' (fun _ h=>h) hlh inv0 hlex h';exact Zgp.any (fun listed a'' w' hw' hL=>by
   obtain⟨u,rfl⟩:=hw';exact Znc (P:=P) (md:=.any) (Q':=NoPanic Q) (t0::us) lt listed a'' u.w hlt hL.1 (hL.2 u)) H.length _ a' _ ⟨⟨_,hk.drew⟩,rfl⟩ K
theorem ZiQ{P:Program}{id:Nat}{Q:Exit->Act->World->Prop}{a:Act}{w:World}{l:List Oper}(W0:World)(E H:List Nat)(t0:Nat)(us:List Nat)(lh lt:List Oper)(hm:P.follows .mixedOrders=true)(hB:Zt0 l.toArray E H t0 us=true)
  (hlh:H.map (l.toArray[·]?)=lh.map some) (hlt:(t0::us).map (l.toArray[·]?)=lt.map some) (hk:Zag W0 w)
  (h:Zdj P l.toArray (fun a'=>wpQuiet P l.toArray (fun w'=>∃u:KW W0,w'=u.w) (fun a''=>∀u:KW W0,wpList P l.toArray (NoPanic Q) lt a'' u.w) lh a') E a):(Code.region id l.toArray true).wp P Q a w:=
 wp_region_noPanic (wp_region_any hm (ZpA W0 E H t0 us lh lt hB hlh hlt hk h))
theorem Zau{l:List Oper}(H:List Nat)(h:∀i∈H,i<l.length):H.map (l.toArray[·]?)=(H.filterMap (l[·]?)).map some:=by
 induction H with
 |nil=>rfl
 |cons i H ih=>
  have hi:i<l.length:=h i (by simp);rw[List.map_cons,List.filterMap_cons_some (YaA hi),List.map_cons,ih (fun j hj=>h j (by simp[hj]))];simp[hi]
theorem Zsl{P:Program}{Q:Exit->Act->World->Prop}{a:Act}{w:World}{l:List Oper}(W0:World)(E H:List Nat)(t0:Nat)(us:List Nat)(hB:Zt0 l.toArray E H t0 us=true)(hT:((t0::us).all fun t=>decide (t<l.length))=true)(hk:Zag W0 w)
  (h:Zdj P l.toArray (fun a'=>wpQuiet P l.toArray (fun w'=>∃u:KW W0,w'=u.w) (fun a''=>∀u:KW W0,wpList P l.toArray (NoPanic Q) ((t0::us).filterMap (l[·]?)) a'' u.w) (H.filterMap (l[·]?)) a') E a):wpAny P .any l.toArray (NoPanic Q) l.toArray.size (Array.replicate l.toArray.size false) a w.drew:=by
 have hsz:H.all (fun h=>decide (h<l.toArray.size))=true:=by
  simp only[Zt0,YaQ] at hB;exact hB.1.1.1.1.2
 exact ZpA W0 E H t0 us _ _ hB (Zau H (fun i hi=>by simpa using List.all_eq_true.1 hsz i hi)) (Zau _ (fun i hi=>by simpa using List.all_eq_true.1 hT i hi)) hk h
theorem ZaW{P:Program}{id:Nat}{Q:Exit->Act->World->Prop}{a:Act}{w:World}{l:List Oper}(W0:World)(E H:List Nat)(t0:Nat)(us:List Nat)(hm:P.follows .mixedOrders=true)(hB:Zt0 l.toArray E H t0 us=true)(hT:((t0::us).all fun t=>decide (t<l.length))=true)(hk:Zag W0 w)
  (h:Zdj P l.toArray (fun a'=>wpQuiet P l.toArray (fun w'=>∃u:KW W0,w'=u.w) (fun a''=>∀u:KW W0,wpList P l.toArray (NoPanic Q) ((t0::us).filterMap (l[·]?)) a'' u.w) (H.filterMap (l[·]?)) a') E a):(Code.region id l.toArray true).wp P Q a w:=by
 have hsz:H.all (fun h=>decide (h<l.toArray.size))=true:=by
  simp only[Zt0,YaQ] at hB;exact hB.1.1.1.1.2
 exact ZiQ W0 E H t0 us _ _ hm hB (Zau H (fun i hi=>by simpa using List.all_eq_true.1 hsz i hi)) (Zau _ (fun i hi=>by simpa using List.all_eq_true.1 hT i hi)) hk h
section
variable{P:Program}{ops:Array Oper}{md:Region.Mode}{S:World→Prop}{Q Q':Exit→Act→World→Prop}
theorem Zh3{o:Oper}{a:Act}{w:World}{K:Act->World->Prop}(h:∀e a w,e≠Exit.normal->Q e a w->Q' e a w)(hh:o.wp P a w K Q):o.wp P a w K Q':=by
 unfold Oper.wp at *;generalize (execOp a.eval o).run P w=r at *
 cases r with
 |ok n w'=>
  cases n<;>simp only[Oper.upon] at hh ⊢
  case value u=>exact hh
  case skip=>exact hh
  case defer d=>exact hh
  case enter f args=>
   refine Calls.mono hh fun e w'' he=>?_
   cases e with
   |returned u=>exact he
   |panicked c=>exact h _ _ _ (by simp) he
   |outgrown=>obtain⟨a',w₀,hq⟩:=he;exact⟨a',w₀,h _ _ _ (by simp) hq⟩
  case row row args=>exact hh
 |halt x w'=>
  cases x<;>simp only[Oper.upon] at hh ⊢
  case panic u=>exact h _ _ _ (by simp) hh
theorem Zfk{i:Nat}{a:Act}{w:World}{K:Act->World->Prop}(h:∀e a w,e≠Exit.normal->Q e a w->Q' e a w)(hh:wpOp P ops Q i K a w):wpOp P ops Q' i K a w:=by
 unfold wpOp at *
 split
 ·rename_i ho;simp only[ho] at hh;exact hh
 ·rename_i o ho
  simp only[ho] at hh
  split
  ·rename_i hw
   simp only[hw,if_true] at hh
   rcases hh with hh|⟨h1,a',w₀,hq⟩
   ·exact .inl (Zh3 h hh)
   ·exact .inr ⟨h1,a',w₀,h _ _ _ (by simp) hq⟩
  ·rename_i hw
   simp only[hw] at hh;exact hh
def ZiR(P:Program)(md:Region.Mode)(ops:Array Oper)(Q:Exit->Act->World->Prop)(S:World->Prop)(F:List Nat):Nat->Array Bool->Act->World->Prop
 |0,listed,a,w=>Region.ready md ops listed=[]/\Q .normal a w
 |f+1,listed,a,w=>(Region.ready md ops listed=[]->Q .normal a w)/\∀i∈Region.ready md ops listed,wpOp P ops Q i (fun a' w'=>(i∈F\/S w')/\ZiR P md ops Q S F f (listed.setIfInBounds i true) a' w') a w
theorem ZiR.any{F:List Nat}(f:Nat):∀(listed:Array Bool) (a:Act) (w:World),ZiR P md ops Q S F f listed a w->wpAny P md ops Q f listed a w:=by
 induction f with
 |zero=>intro listed a w h;exact h
 |succ f ih=>intro listed a w h;exact⟨h.1,fun i hi=>wpOp_mono (fun a' w' h'=>ih _ a' w' h'.2) (h.2 i hi)⟩
def Zj1(md:Region.Mode)(ops:Array Oper):Nat->Nat->Nat->Bool
 |0,_,_=>false
 |fuel+1,f,i=>Region.waitsFor md ops f i || (List.range ops.size).any fun j=>Region.waitsFor md ops f j && Zj1 md ops fuel j i
def Zeg(md:Region.Mode)(ops:Array Oper)(listed:Array Bool):Prop:=∀j oj,ops[j]?=some oj->listed.getD j false=true->∀e∈oj.after,Region.binds md e=true->listed.getD e.on false=true
theorem Zj2{listed:Array Bool}(hc:Zeg md ops listed){i:Nat}(fuel:Nat):∀f,(∀of,ops[f]?=some of->∀e∈of.after,Region.binds md e=true->listed.getD e.on false=true)->Zj1 md ops fuel f i=true->listed.getD i false=true:=by
 induction fuel with
 |zero=>intro f _ h;cases h
 |succ fuel ih=>
  intro f hf h;simp only[Zj1,Bool.or_eq_true,List.any_eq_true,YaQ] at h
  rcases h with h|⟨j,_,h1,h2⟩
  ·obtain⟨oj,hoj,e,he,hb,hon⟩:=Region.waitsFor_spec h;rw[<-hon];exact hf oj hoj e he hb
  ·obtain⟨oj,hoj,e,he,hb,hon⟩:=Region.waitsFor_spec h1;have hj:listed.getD j false=true:=by rw[<-hon];exact hf oj hoj e he hb
   exact ih j (fun oj' hoj'=>hc j oj' hoj' hj) h2
theorem Zeg.set{listed:Array Bool}{i:Nat}(h:Zeg md ops listed)(hi:i∈Region.ready md ops listed):Zeg md ops (listed.setIfInBounds i true):=by
 obtain⟨_,oi,hoi,hall⟩:=mem_ready.1 hi;intro j oj hj hl e he hb
 by_cases hij:i=j
 ·subst hij;have:oj=oi:=Option.some.inj (hj.symm.trans hoi);subst this;exact getD_set_true (hall e he hb)
 ·rw[getD_set_ne false hij] at hl;exact getD_set_true (h j oj hj hl e he hb)
theorem ZiR.first{F:List Nat}{i N:Nat}{oi:Oper}{v:Value}(hi:ops[i]?=some oi)(hsel:∀(j:Nat) (o:Oper) cs b,ops[j]?=some o->o.op≠.select cs b)(hQ:∀c a w,Q (.panic c) (a.put oi.dst v) w->Q (.panic c) a w)
  (hwait:∀f∈F,Zj1 md ops N f i=true) (fuel:Nat):∀(listed:Array Bool) (a:Act) (w:World),Zeg md ops listed ->
   (∀j oj,ops[j]?=some oj->j≠i->listed.getD j true=false->(∀e∈oj.after,Region.binds md e=true->e.on≠i)->oi.apart ops oj=true) ->
   i∈Region.ready md ops listed->YieldsIf P ops S oi v a->S w->ZiR P md ops Q S F fuel (listed.setIfInBounds i true) (a.put oi.dst v) w->ZiR P md ops Q S F (fuel+1) listed a w:=by
 have notlast:∀{listed:Array Bool} {j:Nat},Zeg md ops listed->listed.getD i true=false->j∈Region.ready md ops listed->j ∉ F:=fun {listed j} hc hun hr hF=>by
  obtain⟨_,ot,hot,hall⟩:=mem_ready.1 hr;have h2:=Zj2 hc N j (fun of hof e he hb=>by
   have:of=ot:=Option.some.inj (hof.symm.trans hot);subst this;exact hall e he hb) (hwait j hF)
  rw[getD_both hun] at h2
  cases h2
 induction fuel with
 |zero=>
  intro listed a w _ _ hr hy hS H;refine⟨fun h=>(by rw[h] at hr;cases hr),fun j hj=>?_⟩
  by_cases hji:j=i
  ·subst hji;exact hy.wpOp hi hS ⟨.inr hS,H⟩
  ·have:=ready_mono hj hji;rw[H.1] at this
   cases this
 |succ fuel ih=>
  intro listed a w hcl hfree hr hy hS H;have hun:=(mem_ready.1 hr).1;refine⟨fun h=>(by rw[h] at hr;cases hr),fun j hj=>?_⟩
  by_cases hji:j=i
  ·subst hji;exact hy.wpOp hi hS ⟨.inr hS,H⟩
  ·have hjn:j ∉ F:=notlast hcl hun hj;have h1:=H.2 j (ready_mono hj hji);obtain⟨hjun,oj,hoj,hall⟩:=mem_ready.1 hj;have hnot:∀e∈oj.after,Region.binds md e=true->e.on≠i:=fun e he hb heq=>by
    have h1:=hall e he hb;rw[heq,getD_both hun] at h1
    cases h1
   have h2:=wpOp_putIf hoj (hfree j oj hoj hji hjun hnot) (fun cs b=>hsel i oi cs b hi) (fun cs b=>hsel j oj cs b hoj) hQ hy h1;refine wpOp_mono (fun a' w' h3=>?_) h2;have hS':S w':=h3.2.1.resolve_left hjn;refine⟨.inr hS',ih (listed.setIfInBounds j true) a' w' (hcl.set hj) (fun k ok hk hki hunk hno=>hfree k ok hk hki ?_ hno) (ready_mono hr (Ne.symm hji)) h3.1 hS' ?_⟩
   ·by_cases hjk:j=k
    ·subst hjk;exact hjun
    ·rwa [getD_set_ne true hjk] at hunk
   ·rw[Array.setIfInBounds_comm _ _ hji];exact h3.2.2
def ZbZ(P:Program)(ops:Array Oper)(S:World->Prop)(next:Act->Prop):List Oper->Act->Prop
 |[],a=>next a
 |o::es,a=>∃v,YieldsIf P ops S o v a/\ZbZ P ops S next es (a.put o.dst v)
def Zh4(md:Region.Mode)(ops:Array Oper)(F:List Nat)(N:Nat):List Nat->Array Bool->Bool
 |[],_=>true
 |e::es,listed=>(Region.ready md ops listed).contains e && Region.free md ops listed e && F.all (fun f=>Zj1 md ops N f e) && Zh4 md ops F N es (listed.setIfInBounds e true)
theorem Zdk(hs:Region.noSelect ops=true){F:List Nat}{N fuel:Nat}{w:World}(hS:S w){next:Act->Prop}(es:List Nat):∀(le:List Oper) (listed:Array Bool) (a:Act),Zeg md ops listed->es.map (ops[·]?)=le.map some->Zh4 md ops F N es listed=true ->
  (∀a',next a'->ZiR P md ops (NoPanic Q) S F fuel (Zam listed es) a' w)->ZbZ P ops S next le a->ZiR P md ops (NoPanic Q) S F (es.length+fuel) listed a w:=by
 induction es with
 |nil=>
  intro le listed a _ hm _ hn h
  cases le with
  |nil=>rw[List.length_nil,Nat.zero_add];exact hn a h
  |cons _ _=>simp at hm
 |cons e es ih=>
  intro le listed a hcl hm hB hn h
  cases le with
  |nil=>simp at hm
  |cons o le=>
   simp only[List.map_cons,List.cons.injEq] at hm;simp only[Zh4,YaQ] at hB;obtain⟨v,hy,h⟩:=h;have hr:e∈Region.ready md ops listed:=by simpa using hB.1.1.1
   rw[List.length_cons,show es.length+1+fuel=(es.length+fuel)+1 by omega];exact ZiR.first hm.1 (Region.noSelect_spec hs) (fun _ _ _ h=>h) (fun f hf=>List.all_eq_true.1 hB.1.2 f hf) _ listed a w hcl (Region.free_spec hm.1 hB.1.1.2) hr hy hS (ih le _ _ (hcl.set hr) hm.2 hB.2 hn h)
def Zah(P:Program)(ops:Array Oper)(Q:Exit->Act->World->Prop)(S:World->Prop)(next:Act->World->Prop):List Oper->Act->World->Prop
 |[],a,w=>next a w
 |o::rest,a,w=>wpList P ops (fun e a' w'=>match e with|.normal=>S w'/\Zah P ops Q S next rest a' w'|e=>Q e a' w') [o] a w
theorem Znd{F:List Nat}{g:Nat}{next:Act->World->Prop}(ts:List Nat):∀(lt:List Oper) (listed:Array Bool) (a:Act) (w:World),ts.map (ops[·]?)=lt.map some->(∀a w,next a w->ZiR P md ops Q S F g (Zam listed ts) a w) ->
  (seqR:Bool)->seqR=true->(seqR=true->∀k l,ts.take k=l->k<ts.length->Region.ready md ops (Zam listed l)=[ts.getD k 0])->Zah P ops Q S next lt a w->ZiR P md ops Q S F (ts.length+g) listed a w:=by
 induction ts with
 |nil=>
  intro lt listed a w hm hn b hb hseq h
  cases lt with
  |nil=>rw[List.length_nil,Nat.zero_add];exact hn a w h
  |cons _ _=>simp at hm
 |cons t ts ih=>
  intro lt listed a w hm hn b hb hseq h
  cases lt with
  |nil=>simp at hm
  |cons o lt=>
   simp only[List.map_cons,List.cons.injEq] at hm;have hr:Region.ready md ops listed=[t]:=by simpa [Zam] using hseq hb 0 [] (by simp) (by simp)
   rw[List.length_cons,show ts.length+1+g=(ts.length+g)+1 by omega];refine⟨fun h1=>(by rw[hr] at h1;cases h1),fun i hi=>?_⟩;rw[hr] at hi;have hik:i=t:=by simpa using hi
   subst hik;have hw:wpOp P ops (fun e a' w'=>match e with|.normal=>S w'/\Zah P ops Q S next lt a' w'|e=>Q e a' w') i (wpList P ops (fun e a' w'=>match e with|.normal=>S w'/\Zah P ops Q S next lt a' w'|e=>Q e a' w') []) a w:=by unfold wpOp;simp only[hm.1];exact h
   refine wpOp_mono (fun a' w' h'=>⟨.inr h'.1,ih lt _ a' w' hm.2 hn b hb (fun hb k l hl hk=>?_) h'.2⟩) (Zfk (Q':=Q) (fun e a w he h=>?_) hw)
   ·have:=hseq hb (k+1) (i::l) (by simp[hl]) (by simpa using hk)
    simpa [Zam] using this
   ·cases e<;>first|exact absurd rfl he|exact h
theorem Zf9{F:List Nat}(ts:List Nat):∀(lt:List Oper) (listed:Array Bool) (a:Act) (w:World),(∀t∈ts,t∈F)->ts.map (ops[·]?)=lt.map some->ZlA md ops ts listed=true->wpList P ops Q lt a w->ZiR P md ops Q S F ts.length listed a w:=by
 induction ts with
 |nil=>
  intro lt listed a w _ hm hB h
  cases lt with
  |nil=>exact⟨by simpa [ZlA] using hB,h⟩
  |cons _ _=>simp at hm
 |cons t ts ih=>
  intro lt listed a w hF hm hB h
  cases lt with
  |nil=>simp at hm
  |cons o lt=>
   simp only[List.map_cons,List.cons.injEq] at hm;simp only[ZlA,YaQ,decide_eq_true_eq] at hB;refine⟨fun h1=>(by rw[hB.1] at h1;cases h1),fun i hi=>?_⟩;rw[hB.1] at hi;have hik:i=t:=by simpa using hi
   subst hik;have hw:wpOp P ops Q i (wpList P ops Q lt) a w:=by unfold wpOp;simp only[hm.1];exact h
   exact wpOp_mono (fun a' w' h'=>⟨.inl (hF i (by simp)),ih lt _ a' w' (fun t ht=>hF t (by simp[ht])) hm.2 hB.2 h'⟩) hw
end
def ZwR(ops:Array Oper):List Nat->Array Bool->Bool
 |[],_=>true
 |t::ts,listed=>decide (Region.ready .any ops listed=[t]) && ZwR ops ts (listed.setIfInBounds t true)
theorem Zj3{ops:Array Oper}(ts:List Nat):∀(listed:Array Bool),ZwR ops ts listed=true->∀k l,ts.take k=l->k<ts.length->Region.ready .any ops (Zam listed l)=[ts.getD k 0]:=by
 induction ts with
 |nil=>intro listed _ k l _ hk;simp at hk
 |cons t ts ih=>
  intro listed hB k l hl hk;simp only[ZwR,YaQ,decide_eq_true_eq] at hB
  cases k with
  |zero=>subst hl;simpa [Zam] using hB.1
  |succ k=>
   subst hl;have:=ih _ hB.2 k (ts.take k) rfl (by simpa using hk)
   simpa [Zam] using this
def ZeC(ops:Array Oper)(E M F:List Nat):Bool:=
 Region.noSelect ops && Zh4 .any ops F ops.size E (Array.replicate ops.size false) && ZwR ops M (Zam (Array.replicate ops.size false) E) && ZlA .any ops F (Zam (Zam (Array.replicate ops.size false) E) M) && decide (E.length+(M.length+F.length)=ops.size) && E.all (fun e=>decide (e<ops.size)) && M.all (fun e=>decide (e<ops.size)) && F.all (fun e=>decide (e<ops.size))
theorem Zad{P:Program}{id:Nat}{Q:Exit->Act->World->Prop}{a:Act}{w:World}{l:List Oper}(S:World->Prop)(E M F:List Nat)(hm:P.follows .mixedOrders=true)(hB:ZeC l.toArray E M F=true)(hS:S w.drew)
  (h:ZbZ P l.toArray S (fun a'=>Zah P l.toArray (NoPanic Q) S (fun a'' w''=>wpList P l.toArray (NoPanic Q) (F.filterMap (l[·]?)) a'' w'') (M.filterMap (l[·]?)) a' w.drew) (E.filterMap (l[·]?)) a):(Code.region id l.toArray true).wp P Q a w:=by
 simp only[ZeC,YaQ,decide_eq_true_eq] at hB;obtain⟨⟨⟨⟨⟨⟨⟨hsel,hE⟩,hM⟩,hF⟩,hlen⟩,hEs⟩,hMs⟩,hFs⟩:=hB;refine wp_region_noPanic (wp_region_any hm (ZiR.any (S:=S) (F:=F) _ _ _ _ ?_));have h2:=Zdk (P:=P) (md:=.any) (Q:=Q) (S:=S) (F:=F) (N:=l.toArray.size) (fuel:=M.length+F.length) hsel hS E (E.filterMap (l[·]?)) (Array.replicate l.toArray.size false) a (fun j oj _ hl=>by rw[getD_replicate_false] at hl;cases hl) (Zau E (fun i hi=>by simpa using List.all_eq_true.1 hEs i hi)) hE
  (fun a' h'=>Znd M (M.filterMap (l[·]?)) _ a' _ (Zau M (fun i hi=>by simpa using List.all_eq_true.1 hMs i hi)) (fun a'' w'' h''=>Zf9 F (F.filterMap (l[·]?)) _ a'' w'' (fun _ h=>h) (Zau F (fun i hi=>by simpa using List.all_eq_true.1 hFs i hi)) hF h'') true rfl (fun _=>Zj3 M _ hM) h') h
 rw[hlen] at h2;exact h2
theorem Zaa{P:Program}{ops:Array Oper}{S:World->Prop}{next:Act->Prop}{o:Oper}{es:List Oper}{a:Act}(v:Value)(hg:Region.wanted o (yielded ops a.tmps)=true)(hy:∀W,S W->(execOp a.eval o).run P W=.ok (.value v) W)(h:ZbZ P ops S next es (a.put o.dst v)):ZbZ P ops S next (o::es) a:=
 ⟨v,.inl ⟨hg,hy⟩,h⟩
section
variable{P:Program}{ops:Array Oper}{md:Region.Mode}{S:World→Prop}{Q:Exit→Act→World→Prop}{a0:Act}
def ZaT(ops:Array Oper)(j:Nat):Option Tmp:=(ops[j]?).bind (·.dst)
def ZaL(ops:Array Oper)(a0:Act)(vs:Nat->Value):List Nat->Act
 |[]=>a0
 |j::js=>(ZaL ops a0 vs js).put (ZaT ops j) (vs j)
def Zhm(vs:Nat->Value)(j:Nat)(v:Value):Nat->Value:=fun k=>if k=j then v else vs k
theorem Zuq(a:Act)(d:Option Tmp)(x y:Value):(a.put d x).put d y=a.put d y:=by
 cases d with
 |none=>rfl
 |some t=>simp[Act.put]
theorem Zsm(a:Act){d e:Option Tmp}(h:d≠e)(x y:Value):(a.put d x).put e y=(a.put e y).put d x:=by
 cases d with
 |none=>rfl
 |some t=>
  cases e with
  |none=>rfl
  |some u=>
   have hne:t≠u:=fun e=>h (by rw[e])
   simp only[Act.put];rw[Array.setIfInBounds_comm _ _ hne]
theorem ZpB{vs:Nat->Value}{j:Nat}{v:Value}{js:List Nat}(h:j ∉ js):ZaL ops a0 (Zhm vs j v) js=ZaL ops a0 vs js:=by
 induction js with
 |nil=>rfl
 |cons k js ih=>
  have h1:k≠j:=fun e=>h (by simp[e])
  rw[ZaL,ZaL,ih (fun hm=>h (by simp[hm])),Zhm,if_neg h1]
theorem Zne{vs:Nat->Value}{j:Nat}{v:Value}{js:List Nat}(hj:j∈js)(hnd:(js.map (ZaT ops)).Nodup):(ZaL ops a0 vs js).put (ZaT ops j) v=ZaL ops a0 (Zhm vs j v) js:=by
 induction js with
 |nil=>cases hj
 |cons k js ih=>
  rw[List.map_cons,List.nodup_cons] at hnd
  by_cases hkj:k=j
  ·subst hkj;have hn:k ∉ js:=fun hm=>hnd.1 (List.mem_map_of_mem hm)
   rw[ZaL,Zuq,ZaL,ZpB hn,Zhm,if_pos rfl]
  ·have hjs:j∈js:=by
    rcases List.mem_cons.1 hj with h|h
    ·exact absurd h.symm hkj
    ·exact h
   have hd:ZaT ops k≠ZaT ops j:=fun e=>hnd.1 (by rw[e];exact List.mem_map_of_mem hjs)
   rw[ZaL,Zsm _ hd,ih hjs hnd.2,ZaL,Zhm,if_neg hkj]
theorem Zsn(a:Act)(d:Option Tmp):a.put d (match d with|some t=>a.tmps.getD t undef|none=>undef)=a:=by
 cases d with
 |none=>rfl
 |some t=>
  have:a.tmps.setIfInBounds t (a.tmps.getD t undef)=a.tmps:=by
   apply Array.ext_getElem?
   intro i;rw[Array.getElem?_setIfInBounds]
   by_cases h:t=i
   ·subst h
    by_cases hl:t<a.tmps.size
    ·rw[if_pos rfl,if_pos hl];simp[hl]
    ·rw[if_pos rfl,if_neg hl];exact(Array.getElem?_eq_none (Nat.le_of_not_lt hl)).symm
   ·rw[if_neg h]
  simp only[Act.put,this]
theorem Zfl(js:List Nat):∃vs,ZaL ops a0 vs js=a0:=by
 refine⟨fun j=>match ZaT ops j with|some t=>a0.tmps.getD t undef|none=>undef,?_⟩
 induction js with
 |nil=>rfl
 |cons j js ih=>rw[ZaL,ih];exact Zsn a0 (ZaT ops j)
def Zdl(md:Region.Mode)(ops:Array Oper)(M T:List Nat):Nat->Array Bool->Bool
 |0,listed=>M.all (fun j=>listed.getD j false) && ZlA md ops T listed
 |n+1,listed=>!(Region.ready md ops listed).isEmpty && (Region.ready md ops listed).all fun i=>M.contains i && Zdl md ops M T n (listed.setIfInBounds i true)
def Zbl(P:Program)(ops:Array Oper)(Q:Exit->Act->World->Prop)(S:World->Prop)(V:Nat->Value->World->Prop)(R:Nat->Value->Nat->Value->Prop)(j:Nat)(d:Option Tmp)(o:Oper)(a:Act)(w:World):Prop:=
 wpList P ops (fun e a' w'=>match e with|.normal=>∃v,a'=a.put d v/\S w'/\V j v w'/\Below w.heap.size w w'/\(∀k v',k≠j->V k v' w->R j v k v')|e=>Q e a' w') [o] a w
theorem ZpC{M T:List Nat}{lt:List Oper}{V:Nat->Value->World->Prop}{R:Nat->Value->Nat->Value->Prop}(hR:∀j v k v',R j v k v'->R k v' j v)(hst:∀j v w w',V j v w->Below w.heap.size w w'->V j v w')(hnd:(M.map (ZaT ops)).Nodup)
  (h1:∀j∈M,∀o,ops[j]?=some o->∀vs w,S w->(∀k∈M,Region.waitsFor md ops j k=true->V k (vs k) w)->Zbl P ops Q S V R j (ZaT ops j) o (ZaL ops a0 vs M) w)
  (h2:∀vs w,S w->(∀k∈M,V k (vs k) w)->(∀j∈M,∀k∈M,j≠k->R j (vs j) k (vs k))->wpList P ops Q lt (ZaL ops a0 vs M) w) (hT:T.map (ops[·]?)=lt.map some) :
  ∀(n:Nat) (listed:Array Bool) (vs:Nat->Value) (w:World),Zdl md ops M T n listed=true->S w->(∀k∈M,listed.getD k false=true->V k (vs k) w)->(∀j∈M,∀k∈M,j≠k->listed.getD j false=true->listed.getD k false=true->R j (vs j) k (vs k))->ZiR P md ops Q S T (n+T.length) listed (ZaL ops a0 vs M) w:=by
 intro n
 induction n with
 |zero=>
  intro listed vs w hB hS hV hD;simp only[Zdl,YaQ,List.all_eq_true] at hB;rw[Nat.zero_add];exact Zf9 T lt listed _ w (fun t h=>h) hT hB.2 (h2 vs w hS (fun k hk=>hV k hk (hB.1 k hk)) (fun j hj k hk hne=>hD j hj k hk hne (hB.1 j hj) (hB.1 k hk)))
 |succ n ih=>
  intro listed vs w hB hS hV hD;simp only[Zdl,YaQ,List.all_eq_true,Bool.not_eq_true'] at hB;rw[show n+1+T.length=(n+T.length)+1 by omega];refine⟨fun h=>(by rw[h] at hB;cases hB.1),fun i hi=>?_⟩;obtain⟨hiM,hchk⟩:=hB.2 i hi;have hiM:i∈M:=by simpa using hiM
  obtain⟨hun,oj,hoj,hall⟩:=mem_ready.1 hi;have hw:=h1 i hiM oj hoj vs w hS (fun k hk hwait=>hV k hk (by
   obtain⟨oj',hoj',e,he,hb,hon⟩:=Region.waitsFor_spec hwait;have:oj'=oj:=Option.some.inj (hoj'.symm.trans hoj);subst this;rw[<-hon];exact hall e he hb))
  have hw':wpOp P ops (fun e a' w'=>match e with|.normal=>∃v,a'=(ZaL ops a0 vs M).put (ZaT ops i) v/\S w'/\V i v w'/\Below w.heap.size w w'/\(∀k v',k≠i->V k v' w->R i v k v')|e=>Q e a' w') i (wpList P ops (fun e a' w'=>match e with|.normal=>∃v,a'=(ZaL ops a0 vs M).put (ZaT ops i) v/\S w'/\V i v w'/\Below w.heap.size w w'/\(∀k v',k≠i->V k v' w->R i v k v')|e=>Q e a' w') []) (ZaL ops a0 vs M) w:=by unfold wpOp;simp only[hoj];exact hw
  refine wpOp_mono (fun a' w' h'=>?_) (Zfk (Q':=Q) (fun e a w he h=>?_) hw')
  ·obtain⟨v,rfl,hS',hVv,hb,hRv⟩:=h';refine⟨.inr hS',?_⟩;rw[Zne hiM hnd];refine ih _ _ w' hchk hS' (fun k hk hl=>?_) (fun j hj k hk hne hlj hlk=>?_)
   ·by_cases hki:k=i
    ·subst hki;rw[Zhm,if_pos rfl];exact hVv
    ·rw[Zhm,if_neg hki];rw[getD_set_ne false (Ne.symm hki)] at hl;exact hst k _ w w' (hV k hk hl) hb
   ·by_cases hji:j=i
    ·subst hji;have hkj:k≠j:=Ne.symm hne;rw[Zhm,if_pos rfl,Zhm,if_neg hkj];rw[getD_set_ne false (Ne.symm hkj)] at hlk;exact hRv k _ hkj (hV k hk hlk)
    ·rw[getD_set_ne false (Ne.symm hji)] at hlj
     by_cases hki:k=i
     ·subst hki;rw[Zhm,if_neg hji,Zhm,if_pos rfl];exact hR _ _ _ _ (hRv j _ hji (hV j hj hlj))
     ·rw[getD_set_ne false (Ne.symm hki)] at hlk;rw[Zhm,if_neg hji,Zhm,if_neg hki];exact hD j hj k hk hne hlj hlk
  ·cases e<;>first|exact absurd rfl he|exact h
end
def ZbD(ops:Array Oper)(E M T:List Nat):Bool:=
 Region.noSelect ops && Zh4 .any ops T ops.size E (Array.replicate ops.size false) && Zdl .any ops M T M.length (Zam (Array.replicate ops.size false) E) && decide (E.length+(M.length+T.length)=ops.size) && E.all (fun e=>decide (e<ops.size)) && M.all (fun e=>decide (e<ops.size)) && T.all (fun e=>decide (e<ops.size)) && decide ((M.map (ZaT ops)).Nodup) && M.all (fun j=>!(Zam (Array.replicate ops.size false) E).getD j false)
structure Zeh(P:Program)(l:List Oper)(S:World->Prop)(V:Nat->Value->World->Prop)(R:Nat->Value->Nat->Value->Prop)(M T:List Nat)(Q:Exit->Act->World->Prop)(a0:Act):Prop where
 each:∀j∈M,∀o,l[j]?=some o->∀vs w,S w->(∀k∈M,Region.waitsFor .any l.toArray j k=true->V k (vs k) w)->Zbl P l.toArray (NoPanic Q) S V R j (ZaT l.toArray j) o (ZaL l.toArray a0 vs M) w
 last:∀vs w,S w->(∀k∈M,V k (vs k) w)->(∀j∈M,∀k∈M,j≠k->R j (vs j) k (vs k))->wpList P l.toArray (NoPanic Q) (T.filterMap (l[·]?)) (ZaL l.toArray a0 vs M) w
theorem ZaY{P:Program}{id:Nat}{Q:Exit->Act->World->Prop}{a:Act}{w:World}{l:List Oper}(S:World->Prop)(V:Nat->Value->World->Prop)(R:Nat->Value->Nat->Value->Prop)(E M T:List Nat)(hm:P.follows .mixedOrders=true)(hB:ZbD l.toArray E M T=true)(hS:S w.drew)(hR:∀j v k v',R j v k v'->R k v' j v)(hst:∀j v w w',V j v w->Below w.heap.size w w'->V j v w')
  (h:ZbZ P l.toArray S (Zeh P l S V R M T Q) (E.filterMap (l[·]?)) a):(Code.region id l.toArray true).wp P Q a w:=by
 simp only[ZbD,YaQ,decide_eq_true_eq,Bool.not_eq_true',List.all_eq_true] at hB;obtain⟨⟨⟨⟨⟨⟨⟨⟨hsel,hE⟩,hP⟩,hlen⟩,hEs⟩,hMs⟩,hTs⟩,hnd⟩,hfresh⟩:=hB;refine wp_region_noPanic (wp_region_any hm (ZiR.any (S:=S) (F:=T) _ _ _ _ ?_));have h2:=Zdk (P:=P) (md:=.any) (Q:=Q) (S:=S) (F:=T) (N:=l.toArray.size) (fuel:=M.length+T.length) hsel hS E (E.filterMap (l[·]?)) (Array.replicate l.toArray.size false) a (fun j oj _ hl=>by rw[getD_replicate_false] at hl;cases hl) (Zau E (fun i hi=>by simpa using hEs i hi)) hE
  (fun a' h'=>by
   obtain⟨vs,hvs⟩:=Zfl (ops:=l.toArray) (a0:=a') M;have h3:=ZpC (a0:=a') (S:=S) (Q:=NoPanic Q) (md:=.any) (P:=P) (T:=T) hR hst hnd (fun j hj o ho vs w=>h'.each j hj o (by simpa using ho) vs w) h'.last (Zau T (fun i hi=>by simpa using hTs i hi)) M.length _ vs w.drew hP hS (fun k hk hl=>by rw[hfresh k hk] at hl;cases hl) (fun j hj k hk _ hl=>by rw[hfresh j hj] at hl;cases hl);rw[hvs] at h3;exact h3) h
 rw[hlen] at h2;exact h2
section
variable{P:Program}{ops:Array Oper}{md:Region.Mode}{S:World→Prop}{Q:Exit→Act→World→Prop}{a0:Act}
def ZwW(P:Program)(ops:Array Oper)(Q:Exit->Act->World->Prop)(Inv:(Nat->Bool)->(Nat->Value)->World->Prop)(L:Nat->Bool)(vs:Nat->Value)(j:Nat)(d:Option Tmp)(o:Oper)(a:Act)(w:World):Prop:=
 wpList P ops (fun e a' w'=>match e with|.normal=>∃v,a'=a.put d v/\Inv (fun k=>if k=j then true else L k) (Zhm vs j v) w'|e=>Q e a' w') [o] a w
theorem ZpD{M T:List Nat}{lt:List Oper}{Inv:(Nat->Bool)->(Nat->Value)->World->Prop}(hIS:∀L vs w,Inv L vs w->S w)(hnd:(M.map (ZaT ops)).Nodup)(hM:∀j∈M,j<ops.size)
  (h1:∀j∈M,∀o,ops[j]?=some o->∀L vs w,Inv L vs w->L j=false->(∀k,Region.waitsFor md ops j k=true->L k=true)->ZwW P ops Q Inv L vs j (ZaT ops j) o (ZaL ops a0 vs M) w)
  (h2:∀L vs w,Inv L vs w->(∀k∈M,L k=true)->wpList P ops Q lt (ZaL ops a0 vs M) w) (hT:T.map (ops[·]?)=lt.map some) :
  ∀(n:Nat) (listed:Array Bool) (vs:Nat->Value) (w:World),listed.size=ops.size->Zdl md ops M T n listed=true->Inv (fun k=>listed.getD k false) vs w->ZiR P md ops Q S T (n+T.length) listed (ZaL ops a0 vs M) w:=by
 intro n
 induction n with
 |zero=>
  intro listed vs w hsz hB hI;simp only[Zdl,YaQ,List.all_eq_true] at hB;rw[Nat.zero_add];exact Zf9 T lt listed _ w (fun t h=>h) hT hB.2 (h2 _ vs w hI (fun k hk=>hB.1 k hk))
 |succ n ih=>
  intro listed vs w hsz hB hI;simp only[Zdl,YaQ,List.all_eq_true,Bool.not_eq_true'] at hB;rw[show n+1+T.length=(n+T.length)+1 by omega];refine⟨fun h=>(by rw[h] at hB;cases hB.1),fun i hi=>?_⟩;obtain⟨hiM,hchk⟩:=hB.2 i hi;have hiM:i∈M:=by simpa using hiM
  obtain⟨hun,oj,hoj,hall⟩:=mem_ready.1 hi;have hw:=h1 i hiM oj hoj _ vs w hI (by
   have hlt:=hM i hiM;rw[<-hsz] at hlt;rw[Array.getD_eq_getD_getElem?,Array.getElem?_eq_getElem hlt] at hun ⊢
   simpa using hun) (fun k hwait=>by
   obtain⟨oj',hoj',e,he,hb,hon⟩:=Region.waitsFor_spec hwait;have:oj'=oj:=Option.some.inj (hoj'.symm.trans hoj);subst this;rw[<-hon];exact hall e he hb)
  have hw':wpOp P ops (fun e a' w'=>match e with|.normal=>∃v,a'=(ZaL ops a0 vs M).put (ZaT ops i) v/\Inv (fun k=>if k=i then true else listed.getD k false) (Zhm vs i v) w'|e=>Q e a' w') i (wpList P ops (fun e a' w'=>match e with|.normal=>∃v,a'=(ZaL ops a0 vs M).put (ZaT ops i) v/\Inv (fun k=>if k=i then true else listed.getD k false) (Zhm vs i v) w'|e=>Q e a' w') []) (ZaL ops a0 vs M) w:=by unfold wpOp;simp only[hoj];exact hw
  refine wpOp_mono (fun a' w' h'=>?_) (Zfk (Q':=Q) (fun e a w he h=>?_) hw')
  ·obtain⟨v,rfl,hI'⟩:=h';refine⟨.inr (hIS _ _ _ hI'),?_⟩;rw[Zne hiM hnd];refine ih _ _ w' (by simpa using hsz) hchk ?_;have e:(fun k=>(listed.setIfInBounds i true).getD k false)=(fun k=>if k=i then true else listed.getD k false):=by
    funext k
    by_cases hk:k=i
    ·subst hk;have hlt:=hM k hiM;rw[if_pos rfl];simp[Array.getD,hsz,hlt]
    ·rw[if_neg hk];exact getD_set_ne false (Ne.symm hk)
   rw[e];exact hI'
  ·cases e<;>first|exact absurd rfl he|exact h
end
structure ZwX(P:Program)(l:List Oper)(Inv:(Nat->Bool)->(Nat->Value)->World->Prop)(M T:List Nat)(Q:Exit->Act->World->Prop)(a0:Act):Prop where
 each:∀j∈M,∀o,l[j]?=some o->∀L vs w,Inv L vs w->L j=false->(∀k,Region.waitsFor .any l.toArray j k=true->L k=true)->ZwW P l.toArray (NoPanic Q) Inv L vs j (ZaT l.toArray j) o (ZaL l.toArray a0 vs M) w
 last:∀L vs w,Inv L vs w->(∀k∈M,L k=true)->wpList P l.toArray (NoPanic Q) (T.filterMap (l[·]?)) (ZaL l.toArray a0 vs M) w
theorem ZiS{P:Program}{id:Nat}{Q:Exit->Act->World->Prop}{a:Act}{w:World}{l:List Oper}(S:World->Prop)(Inv:(Nat->Bool)->(Nat->Value)->World->Prop)(E M T:List Nat)(hm:P.follows .mixedOrders=true)(hB:ZbD l.toArray E M T=true)(hS:S w.drew)(hIS:∀L vs w,Inv L vs w->S w)(hI0:∀L vs w,S w->(∀k∈M,L k=false)->Inv L vs w)
  (h:ZbZ P l.toArray S (ZwX P l Inv M T Q) (E.filterMap (l[·]?)) a):(Code.region id l.toArray true).wp P Q a w:=by
 simp only[ZbD,YaQ,decide_eq_true_eq,Bool.not_eq_true',List.all_eq_true] at hB;obtain⟨⟨⟨⟨⟨⟨⟨⟨hsel,hE⟩,hP⟩,hlen⟩,hEs⟩,hMs⟩,hTs⟩,hnd⟩,hfresh⟩:=hB;refine wp_region_noPanic (wp_region_any hm (ZiR.any (S:=S) (F:=T) _ _ _ _ ?_));have h2:=Zdk (P:=P) (md:=.any) (Q:=Q) (S:=S) (F:=T) (N:=l.toArray.size) (fuel:=M.length+T.length) hsel hS E (E.filterMap (l[·]?)) (Array.replicate l.toArray.size false) a (fun j oj _ hl=>by rw[getD_replicate_false] at hl;cases hl) (Zau E (fun i hi=>by simpa using hEs i hi)) hE
  (fun a' h'=>by
   obtain⟨vs,hvs⟩:=Zfl (ops:=l.toArray) (a0:=a') M;have hla:∀(E:List Nat) (b:Array Bool),(Zam b E).size=b.size:=by
    intro E
    induction E with
    |nil=>intro b;rfl
    |cons e E ih=>intro b;show (Zam (b.setIfInBounds e true) E).size=_;rw[ih];simp
   have h3:=ZpD (a0:=a') (S:=S) (Q:=NoPanic Q) (md:=.any) (P:=P) (T:=T) (Inv:=Inv) hIS hnd (fun j hj=>by simpa using hMs j hj) (fun j hj o ho L vs w=>h'.each j hj o (by simpa using ho) L vs w) h'.last (Zau T (fun i hi=>by simpa using hTs i hi)) M.length _ vs w.drew (by rw[hla];simp) hP (hI0 _ _ _ hS (fun k hk=>hfresh k hk));rw[hvs] at h3;exact h3) h
 rw[hlen] at h2;exact h2
theorem Zfm{P:Program}{ops:Array Oper}{Q1 Q2:Exit->Act->World->Prop}{o:Oper}{a:Act}{w:World}(h:∀e a w,Q1 e a w->Q2 e a w)(hw:wpList P ops Q1 [o] a w):wpList P ops Q2 [o] a w:=by
 unfold wpList at *
 split
 ·rename_i hwa
  rw[if_pos hwa] at hw
  rcases hw with hh|⟨h1,a',w0,hq⟩
  ·exact .inl (Oper.wp_mono (fun a w hk=>h .normal a w hk) (Zh3 (fun e a w _ hq=>h e a w hq) hh))
  ·exact .inr ⟨h1,a',w0,h _ _ _ hq⟩
 ·rename_i hwa
  rw[if_neg hwa] at hw;exact h .normal _ _ hw
def Zgs(P:Program)(ops:Array Oper)(Q:Exit->Act->World->Prop)(S:World->Prop)(V:(Nat->Prop)->Nat->Value->World->Prop)(F:Nat->Prop)(j:Nat)(d:Option Tmp)(o:Oper)(a:Act)(w:World):Prop:=
 wpList P ops (fun e a' w'=>match e with|.normal=>∃v,a'=a.put d v/\S w'/\Below w.heap.size w w'/\∃F',(∀i,i<w.heap.size->(F' i↔F i))/\V F' j v w'|e=>Q e a' w') [o] a w
structure ZpE(P:Program)(l:List Oper)(S:World->Prop)(V:(Nat->Prop)->Nat->Value->World->Prop)(B:Nat)(F0:Nat->Prop)(M T:List Nat)(Q:Exit->Act->World->Prop)(a0:Act):Prop where
 each:∀j∈M,∀o,l[j]?=some o->∀vs F w,S w->(∀k∈M,Region.waitsFor .any l.toArray j k=true->V F k (vs k) w)->Zgs P l.toArray (NoPanic Q) S V F j (ZaT l.toArray j) o (ZaL l.toArray a0 vs M) w
 last:∀vs F w,S w->(∀i,i<B->(F i↔F0 i))->(∀k∈M,V F k (vs k) w)->wpList P l.toArray (NoPanic Q) (T.filterMap (l[·]?)) (ZaL l.toArray a0 vs M) w
theorem Zgt{P:Program}{ops:Array Oper}{S:World->Prop}{n n':Act->Prop}(h:∀a,n a->n' a):∀(l:List Oper) (a:Act),ZbZ P ops S n l a->ZbZ P ops S n' l a
 |[],a,hn=>h a hn
 |o::r,a,⟨v,h1,h2⟩=>⟨v,h1,Zgt h r _ h2⟩
theorem Zgu{P:Program}{id:Nat}{Q:Exit->Act->World->Prop}{a:Act}{w:World}{l:List Oper}(S:World->Prop)(V:(Nat->Prop)->Nat->Value->World->Prop)(B:Nat)(F0:Nat->Prop)(E M T:List Nat)(hm:P.follows .mixedOrders=true)(hB:ZbD l.toArray E M T=true)(hS:S w.drew)(hSB:∀w,S w->B<=w.heap.size)
  (hst:∀F F' j v w w',V F j v w->Below w.heap.size w w'->(∀i,i<w.heap.size->(F' i↔F i))->V F' j v w')
  (h:ZbZ P l.toArray S (ZpE P l S V B F0 M T Q) (E.filterMap (l[·]?)) a):(Code.region id l.toArray true).wp P Q a w:=by
 refine ZiS S (fun L vs w=>S w/\∃F,(∀i,i<B->(F i↔F0 i))/\∀k∈M,L k=true->V F k (vs k) w) E M T hm hB hS (fun L vs w h=>h.1) (fun L vs w hS hL=>⟨hS,F0,fun _ _=>Iff.rfl,fun k hk e=>by rw[hL k hk] at e;cases e⟩) ?_;refine Zgt (fun a0 hg=>?_) _ _ h;refine⟨fun j hj o ho L vs w hI hLj hw=>?_,fun L vs w hI hL=>?_⟩
 ·obtain⟨hSw,F,hF,hV⟩:=hI;have h1:=hg.each j hj o ho vs F w hSw (fun k hk hwait=>hV k hk (hw k hwait));unfold Zgs at h1;unfold ZwW;refine Zfm (fun e a' w' h2=>?_) h1
  cases e with
  |normal=>
   obtain⟨v,hv,hS',hb,F',hF',hV'⟩:=h2;refine⟨v,hv,hS',F',fun i hi=>(hF' i (YaK hi (hSB w hSw))).trans (hF i hi),fun k hk hLk=>?_⟩
   by_cases hkj:k=j
   ·subst hkj;unfold Zhm;rw[if_pos rfl];exact hV'
   ·simp only[if_neg hkj] at hLk;unfold Zhm;rw[if_neg hkj];exact hst F F' k (vs k) w w' (hV k hk hLk) hb hF'
  |_=>exact h2
 ·obtain⟨hSw,F,hF,hV⟩:=hI;exact hg.last vs F w hSw hF (fun k hk=>hV k hk (hL k hk))
