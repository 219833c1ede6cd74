/- Lemmas. -/
import Derived.ProofKit
import Derived.OpenShut
import Derived.Deep.Fields
import Derived.Test.YtkmaeipoaoikpaaGreatProg
import Derived.Test.YtkmaeipoaoikpaaGreatEC01
namespace Go.Proofs.YtkmaeipoaoikpaaGreat
set_option linter.all false
set_option maxRecDepth 100000
set_option maxHeartbeats 1000000
open Lib (hid)
open Tryz
section
open Go.RowKit
variable{md:Region.Mode}{ops:Array Oper}
def Zur(md:Region.Mode)(ops:Array Oper)(M:List Nat):Nat->Nat->Nat->Bool
 |0,_,_=>false
 |n+1,t,m=>Region.waitsFor md ops t m || M.any (fun k=>Region.waitsFor md ops t k && Zur md ops M n k m)
def Zso(md:Region.Mode)(ops:Array Oper):List Nat->List Nat->Bool
 |_,[]=>true
 |E,m::M=>(match ops[m]? with|some o=>o.after.all (fun e=>!Region.binds md e || E.contains e.on)|none=>false) && Zso md ops (m::E) M
theorem Zh5:∀(M E:List Nat) (listed:Array Bool),Zso md ops E M=true->(∀e∈E,listed.getD e false=true)->(∃m∈M,listed.getD m false=false)->∃m∈M,listed.getD m false=false/\∃o,ops[m]?=some o/\∀e∈o.after,Region.binds md e=true->listed.getD e.on false=true
 |[],_,_,_,_,h=>by obtain⟨m,hm,_⟩:=h;cases hm
 |m::M,E,listed,hB,hE,h=>by
  simp only[Zso,YaQ] at hB;obtain⟨h1,h2⟩:=hB
  cases hl:listed.getD m false with
  |false=>
   split at h1
   ·rename_i o ho
    refine⟨m,by simp,hl,o,ho,fun e he hb=>?_⟩;rw[Array.all_eq_true_iff_forall_mem] at h1;have:=h1 e he;rw[hb] at this;simp only[Bool.not_true,Bool.false_or] at this;exact hE _ (by simpa using this)
   ·cases h1
  |true=>
   obtain⟨m',hm',hl'⟩:=h;have hm'':m'∈M:=by
    rcases List.mem_cons.1 hm' with e|e
    ·subst e;rw[hl] at hl';cases hl'
    ·exact e
   obtain⟨k,hk,h3⟩:=Zh5 M (m::E) listed h2 (fun e he=>by
    rcases List.mem_cons.1 he with e1|e1
    ·subst e1;exact hl
    ·exact hE e e1) ⟨m',hm'',hl'⟩
   exact⟨k,by simp[hk],h3⟩
theorem Zj4{M:List Nat}{listed:Array Bool}(hc:∀j,j∈M->listed.getD j false=true->∀k,Region.waitsFor md ops j k=true->listed.getD k false=true):∀(n t m:Nat),Zur md ops M n t m=true->(∀k,Region.waitsFor md ops t k=true->listed.getD k false=true)->listed.getD m false=true
 |0,_,_,h,_=>by cases h
 |n+1,t,m,h,ht=>by
  simp only[Zur,Bool.or_eq_true,List.any_eq_true,YaQ] at h
  rcases h with h|⟨k,hk,h1,h2⟩
  ·exact ht m h
  ·exact Zj4 hc n k m h2 (fun k' hk'=>hc k hk (ht k h1) k' hk')
theorem ZfC{p:Nat->Bool}{i:Nat}:∀(M:List Nat),M.Nodup->i∈M->p i=true->(M.filter p).length=(M.filter (fun m=>p m && m !=i)).length+1
 |[],_,h,_=>by cases h
 |m::M,hn,h,hp=>by
  rw[List.nodup_cons] at hn
  by_cases e:m=i
  ·subst e;have:M.filter (fun k=>p k && k !=m)=M.filter p:=by
    apply List.filter_congr
    intro k hk;have:k≠m:=fun e=>hn.1 (by rw[<-e];exact hk)
    simp[this]
   simp[List.filter_cons,hp,this]
  ·have hi:i∈M:=by
    rcases List.mem_cons.1 h with h|h
    ·exact absurd h.symm e
    ·exact h
   have ih:=ZfC M hn.2 hi hp;have e':(m !=i)=true:=by simp[e]
   cases hm:p m<;>simp[List.filter_cons,hm,e',ih]
theorem Zb0:∀(E:List Nat) (b:Array Bool),(Zam b E).size=b.size
 |[],b=>rfl
 |e::E,b=>by show (Zam (b.setIfInBounds e true) E).size=_;rw[Zb0];simp
theorem Zbx:∀(E:List Nat) (b:Array Bool) (i:Nat),(Zam b E).getD i false=true↔(i<b.size/\i∈E)\/b.getD i false=true
 |[],b,i=>by simp[Zam]
 |e::E,b,i=>by
  show (Zam (b.setIfInBounds e true) E).getD i false=true↔_
  rw[Zbx]
  by_cases h:e=i
  ·subst h
   by_cases hlt:e<b.size
   ·simp[hlt]
   ·simp[hlt]
  ·rw[getD_set_ne false h];have:¬i=e:=fun x=>h x.symm
   simp[this]
def Zus(md:Region.Mode)(ops:Array Oper)(E M T:List Nat):Bool:=
 Zso md ops E M && (List.range ops.size).all (fun i=>E.contains i || M.contains i || T.contains i) && T.all (fun t=>M.all fun m=>Zur md ops M M.length t m) && decide M.Nodup && ZlA md ops T (Zam (Zam (Array.replicate ops.size false) E) M)
theorem ZlF{E M T:List Nat}(hB:Zus md ops E M T=true)(hM:∀m∈M,m<ops.size)(hE:∀e∈E,e<ops.size)(hT:∀m∈M,m ∉ E):∀(n:Nat) (listed:Array Bool),listed.size=ops.size->(∀e∈E,listed.getD e false=true)->(∀i,listed.getD i false=true->i∈E\/i∈M) ->
  (∀j,j∈M->listed.getD j false=true->∀k,Region.waitsFor md ops j k=true->listed.getD k false=true)->(M.filter (fun m=>!listed.getD m false)).length=n->Zdl md ops M T n listed=true:=by
 simp only[Zus,YaQ,List.all_eq_true,decide_eq_true_eq] at hB;obtain⟨⟨⟨⟨htopo,hcov⟩,hreach⟩,hnd⟩,hseq⟩:=hB;intro n
 induction n with
 |zero=>
  intro listed hsz h1 h2 h3 h4;have hall:∀m∈M,listed.getD m false=true:=by
   intro m hm
   cases hl:listed.getD m false with
   |true=>rfl
   |false=>
    have:m∈M.filter (fun m=>!listed.getD m false):=List.mem_filter.2 ⟨hm,by rw[hl];rfl⟩;rw[List.length_eq_zero_iff.1 h4] at this
    cases this
  have he:listed=Zam (Zam (Array.replicate ops.size false) E) M:=by
   apply Array.ext
   ·rw[Zb0,Zb0,hsz];simp
   ·intro i hi1 hi2;have a1:listed.getD i false=listed[i]:=by simp[hi1]
    have a2:(Zam (Zam (Array.replicate ops.size false) E) M).getD i false=(Zam (Zam (Array.replicate ops.size false) E) M)[i]:=by simp[hi2]
    rw[<-a1,<-a2];rw[Bool.eq_iff_iff,Zbx,Zbx,Zb0,getD_replicate_false]
    constructor
    ·intro h
     rcases h2 i h with h|h
     ·exact .inr (.inl ⟨by simpa using hE i h,h⟩)
     ·exact .inl ⟨by simpa using hM i h,h⟩
    ·rintro(⟨_,h⟩|⟨_,h⟩|h)
     ·exact hall i h
     ·exact h1 i h
     ·cases h
  simp only[Zdl,YaQ,List.all_eq_true];exact⟨hall,by rw[he];exact hseq⟩
 |succ n ih=>
  intro listed hsz h1 h2 h3 h4;have hun:∃m∈M,listed.getD m false=false:=by
   cases hf:M.filter (fun m=>!listed.getD m false) with
   |nil=>rw[hf] at h4;cases h4
   |cons m l=>
    have:m∈M.filter (fun m=>!listed.getD m false):=by rw[hf];simp
    rw[List.mem_filter] at this;exact⟨m,this.1,by simpa using this.2⟩
  have hg:∀i,i<ops.size->listed.getD i false=false->listed.getD i true=false:=by
   intro i hi h;have hi':i<listed.size:=by rw[hsz];exact hi
   simpa [hi'] using h
  obtain⟨m,hm,hml,o,ho,hall⟩:=Zh5 M E listed htopo h1 hun;have hr:m∈Region.ready md ops listed:=mem_ready.2 ⟨hg m (hM m hm) hml,o,ho,hall⟩;simp only[Zdl,YaQ,List.all_eq_true,Bool.not_eq_true'];refine⟨?_,fun i hi=>?_⟩
  ·cases hrd:Region.ready md ops listed with
   |nil=>rw[hrd] at hr;cases hr
   |cons _ _=>rfl
  ·obtain⟨hil,oi,hoi,hia⟩:=mem_ready.1 hi;have his:i<ops.size:=(Array.getElem?_eq_some_iff.1 hoi).1;have hil':listed.getD i false=false:=by
    have hi':i<listed.size:=by rw[hsz];exact his
    simpa [hi'] using hil
   have hwait:∀k,Region.waitsFor md ops i k=true->listed.getD k false=true:=by
    intro k hk;obtain⟨oj,hoj,e,he,hb,hon⟩:=Region.waitsFor_spec hk;rw[hoi] at hoj;injection hoj with hoj
    subst hoj;rw[<-hon];exact hia e he hb
   have hiM:i∈M:=by
    have hc:=hcov i (by simpa using his);simp only[Bool.or_eq_true,List.contains_iff_mem] at hc
    rcases hc with(hc|hc)|hc
    ·rw[h1 i hc] at hil';cases hil'
    ·exact hc
    ·obtain⟨m',hm',hl'⟩:=hun;have:=hreach i hc m' hm';have:=Zj4 h3 _ _ _ this hwait;rw[this] at hl'
     cases hl'
   refine⟨by simpa using hiM,?_⟩;refine ih _ (by simp[hsz]) (fun e he=>?_) (fun k hk=>?_) (fun j hj hlj k hk=>?_) ?_
   ·exact getD_set_true (h1 e he)
   ·by_cases hik:i=k
    ·subst hik;exact .inr hiM
    ·rw[getD_set_ne false hik] at hk;exact h2 k hk
   ·by_cases hij:i=j
    ·subst hij;exact getD_set_true (hwait k hk)
    ·rw[getD_set_ne false hij] at hlj;exact getD_set_true (h3 j hj hlj k hk)
   ·have hd:=ZfC (p:=fun m=>!listed.getD m false) (i:=i) M hnd hiM (by rw[hil'];rfl);rw[h4] at hd;have he:M.filter (fun m=>!(listed.setIfInBounds i true).getD m false)=M.filter (fun m=>(!listed.getD m false) && m !=i):=by
     apply List.filter_congr
     intro k hk
     by_cases hik:i=k
     ·subst hik;have hi':i<listed.size:=by rw[hsz];exact his
      simp[hi']
     ·rw[getD_set_ne false hik];have:¬k=i:=fun x=>hik x.symm
      simp[this]
    rw[he];omega
def Zh6(ops:Array Oper)(E M T:List Nat):Bool:=
 Region.noSelect ops && Zh4 .any ops T ops.size E (Array.replicate ops.size false) && Zus .any ops E M T && decide (E.length+(M.length+T.length)=ops.size) && E.all (fun e=>decide (e<ops.size)) && M.all (fun e=>decide (e<ops.size)) && T.all (fun e=>decide (e<ops.size)) && decide ((M.map (ZaT ops)).Nodup) && M.all (fun j=>!(Zam (Array.replicate ops.size false) E).getD j false)
theorem Zcu{E M T:List Nat}(h:Zh6 ops E M T=true):ZbD ops E M T=true:=by
 simp only[Zh6,YaQ,decide_eq_true_eq,Bool.not_eq_true',List.all_eq_true] at h;obtain⟨⟨⟨⟨⟨⟨⟨⟨hsel,hE⟩,hP⟩,hlen⟩,hEs⟩,hMs⟩,hTs⟩,hnd⟩,hfresh⟩:=h;have hfr:∀m∈M,m ∉ E:=fun m hm he=>by
  have:=hfresh m hm;rw[(Zbx E _ m).2 (.inl ⟨by simpa using hMs m hm,he⟩)] at this
  cases this
 have hp:=ZlF hP hMs hEs hfr M.length (Zam (Array.replicate ops.size false) E) (by rw[Zb0];simp) (fun e he=>(Zbx E _ e).2 (.inl ⟨by simpa using hEs e he,he⟩)) (fun i hi=>by
  rcases(Zbx E _ i).1 hi with h|h
  ·exact .inl h.2
  ·rw[getD_replicate_false] at h;cases h) (fun j hj hlj=>by rw[hfresh j hj] at hlj;cases hlj) (by
  rw[List.filter_eq_self.2];intro m hm;rw[hfresh m hm];rfl)
 simp only[ZbD,YaQ,decide_eq_true_eq,Bool.not_eq_true',List.all_eq_true];exact⟨⟨⟨⟨⟨⟨⟨⟨hsel,hE⟩,hp⟩,hlen⟩,hEs⟩,hMs⟩,hTs⟩,hnd⟩,hfresh⟩
end
section
open Go.RowKit
def Zcv(P:Program)(ops:Array Oper)(Q:Exit->Act->World->Prop)(V:Nat->Value->World->Prop)(j:Nat)(d:Option Tmp)(o:Oper)(a:Act)(w:World):Prop:=
 wpList P ops (fun e a' w'=>match e with|.normal=>∃v,a'=a.put d v/\V j v w'/\Below w.heap.size w w'|e=>Q e a' w') [o] a w
def ZwY(V:Nat->Value->World->Prop)(M:List Nat)(j:Nat)(w w':World):Prop:=∀k∈M,∀u,k≠j->V k u w->V k u w'
def Zsp(P:Program)(ops:Array Oper)(Q:Exit->Act->World->Prop)(S B:World->Prop)(V:Nat->Value->World->Prop)(M:List Nat)(j:Nat)(d:Option Tmp)(o:Oper)(a:Act)(w:World):Prop:=
 wpList P ops (fun e a' w'=>match e with|.normal=>∃v,a'=a.put d v/\S w'/\B w'/\V j v w'/\ZwY V M j w w'|e=>Q e a' w') [o] a w
structure ZwZ(ops:Array Oper)(S A B:World->Prop)(V:Nat->Value->World->Prop)(M:List Nat)(c:Nat)(L:Nat->Bool)(vs:Nat->Value)(w:World):Prop where
 s:S w
 a:L c=false->A w
 b:L c=true->B w
 v:∀k∈M,L k=true->V k (vs k) w
 cl:∀j∈M,L j=true->∀k,Region.waitsFor .any ops j k=true->L k=true
theorem ZpF{M:List Nat}{L:Nat->Bool}{md:Region.Mode}{ops:Array Oper}(hc:∀j,j∈M->L j=true->∀k,Region.waitsFor md ops j k=true->L k=true):∀(n t m:Nat),Zur md ops M n t m=true->(∀k,Region.waitsFor md ops t k=true->L k=true)->L m=true
 |0,_,_,h,_=>by cases h
 |n+1,t,m,h,ht=>by
  simp only[Zur,Bool.or_eq_true,List.any_eq_true,YaQ] at h
  rcases h with h|⟨k,hk,h1,h2⟩
  ·exact ht m h
  ·exact ZpF hc n k m h2 (fun k' hk'=>hc k hk (ht k h1) k' hk')
structure Znf(P:Program)(l:List Oper)(S A B:World->Prop)(V:Nat->Value->World->Prop)(M:List Nat)(c:Nat)(Q:Exit->Act->World->Prop)(a0:Act):Prop where
 each:∀j∈M,j≠c->∀o,l[j]?=some o->∀vs w,S w->(Zur .any l.toArray M M.length c j=true->A w)->(∀k∈M,Region.waitsFor .any l.toArray j k=true->V k (vs k) w)->Zcv P l.toArray (NoPanic Q) V j (ZaT l.toArray j) o (ZaL l.toArray a0 vs M) w
 turn:∀o,l[c]?=some o->∀vs w,S w->A w->(∀k∈M,Region.waitsFor .any l.toArray c k=true->V k (vs k) w)->Zsp P l.toArray (NoPanic Q) S B V M c (ZaT l.toArray c) o (ZaL l.toArray a0 vs M) w
 last:∀vs w,S w->B w->(∀k∈M,V k (vs k) w)->wpList P l.toArray (NoPanic Q) [] (ZaL l.toArray a0 vs M) w
theorem Zcw{P:Program}{id:Nat}{Q:Exit->Act->World->Prop}{a:Act}{w:World}{l:List Oper}(S A B:World->Prop)(V:Nat->Value->World->Prop)(E M:List Nat)(c:Nat)(hm:P.follows .mixedOrders=true)(hc:M.contains c=true)(hB:ZbD l.toArray E M []=true)(hS:S w.drew)(hA:A w.drew)
  (hSb:∀w w',S w->Below w.heap.size w w'->S w') (hAb:∀w w',A w->Below w.heap.size w w'->A w') (hBb:∀w w',B w->Below w.heap.size w w'->B w') (hVb:∀k v w w',V k v w->Below w.heap.size w w'->V k v w')
  (h:ZbZ P l.toArray S (Znf P l S A B V M c Q) (E.filterMap (l[·]?)) a):(Code.region id l.toArray true).wp P Q a w:=by
 simp only[ZbD,YaQ,decide_eq_true_eq,Bool.not_eq_true',List.all_eq_true] at hB;obtain⟨⟨⟨⟨⟨⟨⟨⟨hsel,hE⟩,hP⟩,hlen⟩,hEs⟩,hMs⟩,hTs⟩,hnd⟩,hfresh⟩:=hB;refine wp_region_noPanic (wp_region_any hm (ZiR.any (S:=S) (F:=[]) _ _ _ _ ?_));have h2:=Zdk (P:=P) (md:=.any) (Q:=Q) (S:=S) (F:=[]) (N:=l.toArray.size) (fuel:=M.length+[].length) hsel hS E (E.filterMap (l[·]?)) (Array.replicate l.toArray.size false) a (fun j oj _ hl=>by rw[getD_replicate_false] at hl;cases hl) (Zau E (fun i hi=>by simpa using hEs i hi)) hE
  (fun a' h'=>by
   obtain⟨vs,hvs⟩:=Zfl (ops:=l.toArray) (a0:=a') M;have hla:∀(E:List Nat) (b:Array Bool),(Zam b E).size=b.size:=by
    intro E
    induction E with
    |nil=>intro b;rfl
    |cons e E ih=>intro b;show (Zam (b.setIfInBounds e true) E).size=_;rw[ih];simp
   have h3:=ZpD (a0:=a') (S:=S) (Q:=NoPanic Q) (md:=.any) (P:=P) (T:=[]) (lt:=[]) (Inv:=ZwZ l.toArray S A B V M c) (fun L vs w h=>h.s) hnd (fun j hj=>by simpa using hMs j hj) (fun j hj o ho L vs w hI hL hwt=>by
     have hcl:∀i∈M,(if i=j then true else L i)=true->∀k,Region.waitsFor .any l.toArray i k=true->(if k=j then true else L k)=true:=by
      intro i hi hli k hw
      by_cases ek:k=j
      ·rw[if_pos ek]
      ·rw[if_neg ek]
       by_cases ei:i=j
       ·rw[ei] at hw;exact hwt k hw
       ·rw[if_neg ei] at hli;exact hI.cl i hi hli k hw
     by_cases e:j=c
     ·subst e;have hw:=h'.turn o (by simpa using ho) vs w hI.s (hI.a hL) (fun k hk hwk=>hI.v k hk (hwt k hwk));refine Zfm (fun e a1 w1=>?_) hw
      cases e<;>try exact fun h=>h
      rintro⟨v,h1,h2,h3,h4,h5⟩;refine⟨v,h1,h2,fun h=>?_,fun _=>h3,fun k hk hl=>?_,hcl⟩
      ·simp at h
      ·by_cases e:k=j
       ·subst e;rw[Zhm,if_pos rfl];exact h4
       ·rw[Zhm,if_neg e]
        (try dsimp only at hl)
        rw[if_neg e] at hl;exact h5 k hk _ e (hI.v k hk hl)
     ·have hw:=h'.each j hj e o (by simpa using ho) vs w hI.s (fun hr=>hI.a (by
       cases hLc:L c with
       |false=>rfl
       |true=>
        have:=ZpF hI.cl M.length c j hr (hI.cl c (by simpa using hc) hLc);rw[hL] at this
        cases this)) (fun k hk hwk=>hI.v k hk (hwt k hwk))
      refine Zfm (fun e1 a1 w1=>?_) hw
      cases e1<;>try exact fun h=>h
      rintro⟨v,h1,h4,hb⟩;have hcj:¬c=j:=fun h=>e h.symm
      refine⟨v,h1,hSb _ _ hI.s hb,fun h=>?_,fun h=>?_,fun k hk hl=>?_,hcl⟩
      ·(try dsimp only at h)
       rw[if_neg hcj] at h;exact hAb _ _ (hI.a h) hb
      ·(try dsimp only at h)
       rw[if_neg hcj] at h;exact hBb _ _ (hI.b h) hb
      ·by_cases e2:k=j
       ·subst e2;rw[Zhm,if_pos rfl];exact h4
       ·rw[Zhm,if_neg e2]
        (try dsimp only at hl)
        rw[if_neg e2] at hl;exact hVb _ _ _ _ (hI.v k hk hl) hb)
    (fun L vs w hI hL=>h'.last vs w hI.s (hI.b (hL c (by simpa using hc))) (fun k hk=>hI.v k hk (hL k hk))) (by rfl) M.length _ vs w.drew (by rw[hla];simp) hP
    ⟨hS,fun _=>hA,fun h=>(by rw[hfresh c (by simpa using hc)] at h;cases h),fun k hk hl=>(by rw[hfresh k hk] at hl;cases hl),fun j hj hl=>(by rw[hfresh j hj] at hl;cases hl)⟩
   rw[hvs] at h3;exact h3) h
 rw[hlen] at h2;exact h2
end
section
open Go.ChangeShapes Go.WideShapes Go.ChangeAt Go.RowKit
def Rd(w:World)(size:Nat)(A:Option Addr)(n:Nat)(xs:List Value):Prop:=
 xs.length=n*size/\(0<n->∃b o,A=some ⟨b,o,none⟩/\b<w.heap.size/\∀j u,xs[j]?=some u->w.cell? ⟨b,o+j,none⟩=some u)
theorem Rd.below{w w':World}{size:Nat}{A:Option Addr}{n:Nat}{xs:List Value}(h:Rd w size A n xs)(hb:Below w.heap.size w w'):Rd w' size A n xs:=by
 refine⟨h.1,fun hn=>?_⟩;obtain⟨b,o,e,hlt,hc⟩:=h.2 hn;refine⟨b,o,e,YaK hlt hb.size,fun j u hu=>?_⟩;rw[hb.cell (p:=⟨b,o+j,none⟩) hlt];exact hc j u hu
theorem Rd.kept{w w':World}{size:Nat}{A:Option Addr}{n:Nat}{xs:List Value}(h:Rd w size A n xs)(hb:Zag w w'):Rd w' size A n xs:=h.below hb.2.2
theorem Rd.nil(w:World)(size:Nat)(A:Option Addr):Rd w size A 0 []:=⟨by simp,fun h=>absurd h (by omega)⟩
theorem Rd.alloc{w:World}{size:Nat}{A:Option Addr}{n:Nat}{xs:List Value}(h:Rd w size A n xs)(o:Obj):Rd (w.alloc o) size A n xs:=h.below (bA0 _)
theorem Rd.drew{w:World}{size:Nat}{A:Option Addr}{n:Nat}{xs:List Value}(h:Rd w size A n xs):Rd w.drew size A n xs:=h
theorem Rd.drewN{w:World}{size:Nat}{A:Option Addr}{n:Nat}{xs:List Value}(h:Rd w size A n xs)(k:Nat):Rd (w.drewN k) size A n xs:=h
theorem Rd.of_own{w:World}{base:Nat}{e:TypeId}{size c:Nat}{A:Option Addr}{n:Nat}{xs:List Value}(h:w.ownsRow base e size (.slice A n c) n xs):Rd w size A n xs:=by
 refine⟨h.1,fun hn=>?_⟩
 rcases h.2 with⟨hv,_⟩|⟨g,cap,cur,hv,_,hh,_⟩
 ·injection hv with _ h2;omega
 ·injection hv with h1 _ _
  subst h1;refine⟨g,0,rfl,(h.lt g rfl).2,fun j u hu=>?_⟩;have:=h.cells (g:=g) rfl j u hu;rw[<-this]
  congr 1
  unfold Addr.add
  by_cases hj:j=0<;>simp[hj]
end
section
open Go.ChangeShapes Go.WideShapes Go.ChangeAt Go.RowKit
variable{H:Type}{enc:TypeId×Value→H}{P:Program}{w:World}{base:Nat}{spare:Nat→Bool}{held:Bool}{r:Reach}{b0:Nat}{t:TypeId}{v:Value}{d:DataW H}{p:List MemPlace}
theorem ZlG{n:Nat}{e:TypeId}(ht:P.underlying t=some (.array n e))(hv:Value.okWide P w r b0 t v):∃cs,v=.agg cs/\cs.size=P.cellsOf t:=by
 simp only[Value.okWide,ht] at hv;obtain⟨cs,h1,h2,_⟩:=hv;exact⟨cs,h1,h2⟩
theorem Zut{n:Nat}{e:TypeId}{fuel:Nat}{cs:List Value}{x:DataW H×List MemPlace}(ht:P.underlying t=some (.array n e))(h:DataW.trod enc P w base spare held fuel t cs=some x) :
  ∃m,∀i,i<n->∃y,DataW.trod enc P w base spare held m e ((cs.drop (i*P.cellsOf e)).take (P.cellsOf e))=some y:=by
 obtain⟨xs,m,_,_,_,hl,hg⟩:=DataW.trod_array ht h;refine⟨m,fun i hi=>⟨xs[i]'(by omega),?_⟩⟩;rw[hg i hi];exact YaA (by omega)
theorem ZiT{fs:Array Field}{fuel:Nat}{cs:List Value}{x:DataW H×List MemPlace}(ht:P.underlying t=some (.struct fs))(h:DataW.trod enc P w base spare held fuel t cs=some x) :
  ∃m,∀(i:Nat) (f:Field),fs[i]?=some f->∃y,DataW.trod enc P w base spare held m f.type ((cs.drop f.offset).take (P.cellsOf f.type))=some y:=by
 obtain⟨xs,m,_,_,_,hl,hg⟩:=DataW.trod_struct ht h;refine⟨m,fun i f hi=>?_⟩;have hlt:i<fs.size:=(Array.getElem?_eq_some_iff.1 hi).1;refine⟨xs[i]'(by omega),?_⟩;rw[hg i f hi];exact YaA (by omega)
theorem ZcH{k:IntKind}{fuel:Nat}{c:Value}{x:DataW H×List MemPlace}(ht:P.underlying t=some (.int k))(h:DataW.trod enc P w base spare held fuel t [c]=some x):∃n,c=.int k n/\(Lit.int k n).wf=true:=by
 obtain⟨m,hm,_,hw⟩:=DataW.trod_int ht h;simp at hm;exact⟨m,hm,hw⟩
theorem Zw0{α:Type}{l:List α}(h:l.length=2):∃a b,l=[a,b]:=by
 match l,h with
 |[a,b],_=>exact⟨a,b,rfl⟩
theorem Zw1{α:Type}{l:List α}(h:l.length=6):∃a b c e f g,l=[a,b,c,e,f,g]:=by
 match l,h with
 |[a,b,c,e,f,g],_=>exact⟨a,b,c,e,f,g,rfl⟩
theorem Zoe{n:Nat}{e:TypeId}{k:IntKind}(ht:P.underlying t=some (.array n e))(he:P.underlying e=some (.int k))(hce:P.cellsOf e=1)(hct:P.cellsOf t=n)
  (hv:Value.okWide P w r b0 t v) (h:DataW.Trod enc P w base spare held t v d p):∃zs:List Int,zs.length=n/\v=.agg (zs.map (Value.int k)).toArray/\∀z∈zs,(Lit.int k z).wf=true:=by
 obtain⟨cs,rfl,hs⟩:=ZlG ht hv;obtain⟨fuel,hf⟩:=h;obtain⟨m,hm⟩:=Zut ht hf;rw[hct] at hs;have hall:∀i,i<n->∃z,cs.toList[i]?=some (.int k z)/\(Lit.int k z).wf=true:=by
  intro i hi;obtain⟨y,hy⟩:=hm i hi;have hlt:i<cs.toList.length:=by simpa [hs] using hi
  rw[hce,Nat.mul_one] at hy;have e1:((Value.agg cs).cells.toList.drop i).take 1=[cs.toList[i]]:=by
   show (cs.toList.drop i).take 1=_
   rw[List.drop_eq_getElem_cons hlt];rfl
  rw[e1] at hy;obtain⟨z,hz,hw⟩:=ZcH he hy;exact⟨z,by rw[YaA hlt,hz],hw⟩
 obtain⟨f,hf'⟩:=Go.Deep.choose_lt hall;refine⟨(List.range n).map f,by simp,?_,?_⟩
 ·congr 1
  apply Array.ext'
  simp only[List.map_map]
  apply List.ext_getElem?
  intro i
  by_cases hi:i<n
  ·rw[(hf' i hi).1];simp[hi]
  ·have h1:cs.toList.length=n:=by simpa using hs
   rw[YaN (by omega),YaN (by simp;omega)]
 ·intro z hz;simp only[List.mem_map,List.mem_range] at hz;obtain⟨i,hi,rfl⟩:=hz;exact(hf' i hi).2
end
def rv(l:List (Int×Int)):List Value:=l.flatMap fun r=>[.int .i64 r.1,.int .i64 r.2]
theorem ZvP:rv []=[]:=rfl
theorem ZeD(l k:List (Int×Int)):rv (l++k)=rv l++rv k:=by simp[rv]
theorem ZiU(a b:Int)(l:List (Int×Int)):rv ((a,b)::l)=.int .i64 a::.int .i64 b::rv l:=rfl
theorem Zj5(l:List (Int×Int))(k:Nat)(hk:k<l.length):(rv l)[k*2]?=some (.int .i64 (l[k]).1)/\(rv l)[k*2+1]?=some (.int .i64 (l[k]).2):=by
 induction l generalizing k with
 |nil=>simp at hk
 |cons r l ih=>
  obtain⟨a,b⟩:=r;rw[ZiU]
  cases k with
  |zero=>exact⟨rfl,rfl⟩
  |succ k=>
   have:=ih k (by simpa using hk);rw[show (k+1)*2=k*2+2 by omega]
   simpa using this
theorem ZvQ(u:Value)(l:List (Int×Int))(h:u∈rv l):u.oneCell'=true:=by
 unfold rv at h;simp only[List.mem_flatMap] at h;obtain⟨r,_,h⟩:=h;simp at h
 rcases h with rfl|rfl<;>rfl
theorem Zbd{α:Type}(l:List α)(k:Nat)(h:k<l.length):l.take (k+1)=l.take k++[l[k]]:=List.take_succ_eq_append_getElem h
theorem Zj6(l:List (Int×Int))(k:Nat)(h:k<l.length):rv (l.take (k+1))=rv (l.take k)++[.int .i64 (l[k]).1,.int .i64 (l[k]).2]:=by
 rw[Zbd l k h,ZeD];rfl
def bnd(n k i:Nat):Nat:=i*(n/k)+min i (n%k)
def ZfW(n k:Nat):List (Int×Int):=(List.range k).map fun i=>((bnd n k i:Int),(bnd n k (i+1):Int))
theorem Zbe(n k:Nat):(ZfW n k).length=k:=by simp[ZfW]
def cnt(n size:Nat):Nat:=if n=0\/size=0 then 0 else (n-1)/size+1
def Zat(n size:Nat):List (Int×Int):=(List.range (cnt n size)).map fun i=>((i*size:Nat),((i*size+min size (n-i*size):Nat)))
theorem Zan(n size:Nat):(Zat n size).length=cnt n size:=by simp[Zat]
theorem Zch(n size i:Nat)(h:i<(Zat n size).length):(Zat n size)[i]=(((i*size:Nat):Int),((i*size+min size (n-i*size):Nat):Int)):=by simp[Zat]
theorem Zdm(a b:Nat)(ha:1<=a)(hb:1<=b):cnt a b=(a-1)/b+1:=by
 unfold cnt;rw[if_neg (by omega)]
theorem Zci(a b:Nat):cnt a b<=a:=by
 unfold cnt
 split
 ·omega
 ·have:=Nat.div_le_self (a-1) b;omega
theorem ZfD(a b i:Nat)(ha:1<=a)(hb:1<=b):i<cnt a b↔i*b<a:=by
 rw[Zdm a b ha hb,Nat.lt_succ_iff,Nat.le_div_iff_mul_le (by omega)];omega
def ZcQ(n k j:Nat):Nat:=n/k+if j<n%k then 1 else 0
theorem Zof(k j:Nat):ZcQ 0 k j=0:=by simp[ZcQ]
theorem Zsq(n k j:Nat):ZcQ n k j<=n+1:=by
 unfold ZcQ;have:=Nat.div_le_self n k
 split<;>omega
theorem ZfE(n k:Nat)(hk:1<=k):(n%k+1<k/\(n+1)/k=n/k/\(n+1)%k=n%k+1)\/(n%k+1=k/\(n+1)/k=n/k+1/\(n+1)%k=0):=by
 have h1:=Nat.mod_lt n (show 0<k by omega);have h2:=Nat.div_add_mod n k;generalize hq:n/k=q at *;generalize hr:n%k=r at *
 by_cases hc:r+1<k
 ·left
  have e:n+1=k*q+(r+1):=by omega
  refine⟨hc,?_,?_⟩
  ·rw[e,Nat.mul_add_div (by omega),Nat.div_eq_of_lt hc];omega
  ·rw[e,Nat.mul_add_mod,Nat.mod_eq_of_lt hc]
 ·right
  have e:n+1=k*(q+1):=by rw[Nat.mul_add];omega
  refine⟨by omega,?_,?_⟩
  ·rw[e,Nat.mul_div_cancel_left _ (by omega)]
  ·rw[e,Nat.mul_mod_right]
theorem Zog(n k:Nat)(hk:1<=k):ZcQ (n+1) k (n%k)=ZcQ n k (n%k)+1:=by
 unfold ZcQ
 rcases ZfE n k hk with⟨h1,h2,h3⟩|⟨h1,h2,h3⟩
 ·rw[h2,h3,if_pos (by omega),if_neg (by omega)]
 ·rw[h2,h3,if_neg (by omega),if_neg (by omega)]
theorem ZlH(n k j:Nat)(hk:1<=k)(hj:j<k)(hne:j≠n%k):ZcQ (n+1) k j=ZcQ n k j:=by
 unfold ZcQ
 rcases ZfE n k hk with⟨h1,h2,h3⟩|⟨h1,h2,h3⟩
 ·rw[h2,h3]
  by_cases h:j<n%k
  ·rw[if_pos (by omega),if_pos h]
  ·rw[if_neg (by omega),if_neg h]
 ·rw[h2,h3,if_neg (by omega),if_pos (by omega)]
theorem Zng(n k i:Nat):bnd n k (i+1)=bnd n k i+ZcQ n k i:=by
 unfold bnd ZcQ;rw[Nat.add_mul]
 split<;>omega
theorem Znh(n k:Nat):bnd n k 0=0:=by simp[bnd]
theorem ZvR(n k:Nat)(hk:1<=k):bnd n k k=n:=by
 unfold bnd;have h1:=Nat.mod_lt n (show 0<k by omega);have h2:=Nat.div_add_mod n k;omega
theorem Zga(n k i j:Nat)(h:i<=j):bnd n k i<=bnd n k j:=by
 induction h with
 |refl=>exact YaF _
 |step _ ih=>rw[Zng];omega
section
open Go.RowKit
theorem Zdn{w:World}{A:Option Addr}{n k:Nat}{l:List (Int×Int)}(hl:l.length=n)(h:Rd w 2 A n (rv l))(hk:k<n):∃b o x y,A=some ⟨b,o,none⟩/\b<w.heap.size/\l[k]?=some (x,y) /\
  w.cell? ⟨b,o+k*2,none⟩=some (.int .i64 x)/\w.cell? ⟨b,o+k*2+1,none⟩=some (.int .i64 y):=by
 obtain⟨b,o,e,hb,hc⟩:=h.2 (by omega);have hk':k<l.length:=by omega
 obtain⟨h1,h2⟩:=Zj5 l k hk';exact⟨b,o,l[k].1,l[k].2,e,hb,YaA hk',hc _ _ h1,by rw[Nat.add_assoc];exact hc _ _ h2⟩
theorem ZfF:Sl prog 113 218 (.agg #[.int .i64 0,.int .i64 0]) 2 16:=⟨underlying113,by kernel_rfl,rfl,by omega⟩
theorem ZpG:Sl prog 360 355 (.agg #[.int .i64 0,.int .i64 0]) 2 16:=⟨underlying360,by kernel_rfl,rfl,by omega⟩
def ZiV(w:World)(e:TypeId)(l:List (Int×Int))(k:Nat)(v:Value)(wr:World):Prop:=
 (∃A cap,v=.slice A k cap)/\wr.ownsRow w.heap.size e 2 v k (rv (l.take k))/\Below w.heap.size w wr
theorem ZiV.start(w:World)(e:TypeId)(l:List (Int×Int)):ZiV w e l 0 (.slice none 0 0) w:=⟨⟨_,_,rfl⟩,by simpa [ZvP] using World.ownsRow_nil w w.heap.size e 2,bR0 _ _⟩
theorem ZiV.next{w wr w1:World}{e:TypeId}{l:List (Int×Int)}{k:Nat}{v:Value}{A:Option Addr}{cap:Nat}{x y:Int}(h:ZiV w e l k v wr)(hx:Hid (l[k]?=some (x,y)))
  (hown:w1.ownsRow w.heap.size e 2 (.slice A (k+1) cap) (k+1) (rv (l.take k)++[.int .i64 x,.int .i64 y])) (hb:Below w.heap.size wr w1):ZiV w e l (k+1) (.slice A (k+1) cap) w1:=by
 obtain⟨hk,hx⟩:=YaG.1 hx.out;refine⟨⟨_,_,rfl⟩,?_,h.2.2.trans hb⟩;rw[Zj6 l k hk,hx];exact hown
theorem ZiV.done{w wr:World}{e:TypeId}{l:List (Int×Int)}{k n:Nat}{v:Value}(h:ZiV w e l k v wr)(hl:Hid (l.length=n))(hk:k<=n)(hlt:¬k<n):Zal w e 2 n (rv l) (.returned v) wr:=by
 obtain rfl:k=n:=by omega
 obtain⟨A,cap,rfl⟩:=h.1;have hown:=h.2.1;rw[YaX (by have:=hl.out;omega)] at hown;exact⟨A,cap,rfl,hown,h.2.2⟩
theorem Za4(x y:Int):∀u∈(#[Value.int .i64 x,Value.int .i64 y]:Array Value).toList,u.oneCell'=true:=by
 intro u hu;simp at hu
 rcases hu with rfl|rfl<;>rfl
theorem ZiW(x y:Int)(w:World)(hx:-2000000000000<=x)(hx':x<=2000000000000)(hy:-2000000000000<=y)(hy':y<=2000000000000) :
  Calls prog 230 #[.agg #[.int .i64 x,.int .i64 y]] w fun e w'=>e=.returned (.int .i64 (max (y-x) 0))/\Below w.heap.size w w':=by
 go_enter func230,ntmps230
 go_wp2
 all_goals (go_ret;exact⟨ZaG (by first|(show (0:Int)=_;omega)|(show y-x=_;omega)),bA0 _⟩)
theorem Zgb(a b:Int)(h:a<1\/b<1):(0:Int)=(cnt a.toNat b.toNat:Nat):=by
 unfold cnt;rw[if_pos (by omega)];rfl
theorem Zj7(n s:Int)(w:World)(hn:-9223372036854775808<=n)(hn2:n<=1000000000)(hs:s<=9223372036854775807) :
  Calls prog 81 #[.int .i64 n,.int .i64 s] w fun e w'=>e=.returned (.int .i64 (cnt n.toNat s.toNat))/\w=w':=by
 by_cases h1:n<1
 ·go_enter func81,ntmps81
  go_wp2;go_ret;exact⟨ZaG (Zgb _ _ (by omega)),rfl⟩
 ·by_cases h2:s<1
  ·go_enter func81,ntmps81
   go_wp2;go_ret;exact⟨ZaG (Zgb _ _ (by omega)),rfl⟩
  ·have q1:0<=(n-1)/s:=Int.ediv_nonneg (by omega) (by omega);have q2:(n-1)/s<=n-1:=Int.ediv_le_self _ (by omega)
   go_enter func81,ntmps81
   go_wp2;go_ret;refine⟨ZaG ?_,rfl⟩;obtain⟨a,rfl⟩:=YaM (show 0<=n by omega);obtain⟨b,rfl⟩:=YaM (show 0<=s by omega);simp only[cnt,Int.toNat_natCast];rw[if_neg (by omega),show ((a:Int)-1)=((a-1:Nat):Int) by omega];simp
theorem Zj8(i n k m:Nat)(hi:i<=100000000)(hn:n<=1000000000)(hk1:1<=k)(hik:i<=k)(hm:m<=i):wrap64 (wrap64 ((i:Int)*wrap64 ((n:Int)/(k:Int)))+(m:Int))=((i*(n/k)+m:Nat):Int):=by
 have h1:n/k<=n:=Nat.div_le_self _ _;have h2:i*(n/k)<=n:=YaH (YaW _ hik) (Nat.mul_div_le n k);have e0:wrap64 ((n:Int)/(k:Int))=((n/k:Nat):Int):=by
  rw[show ((n:Int)/(k:Int))=((n/k:Nat):Int) by simp];generalize n/k=q at *;exact IntWalk.wrap64_in _ (by omega)
 have e1:wrap64 ((i:Int)*((n/k:Nat):Int))=((i*(n/k):Nat):Int):=by
  rw[show (i:Int)*((n/k:Nat):Int)=((i*(n/k):Nat):Int) by simp];generalize i*(n/k)=q at *;exact IntWalk.wrap64_in _ (by omega)
 rw[e0,e1];generalize i*(n/k)=q at *;rw[IntWalk.wrap64_in _ (by omega)];omega
theorem Zt1(n k i:Nat)(hk:1<=k)(h:i<=k):bnd n k i<=n:=by
 unfold bnd;have h1:k*(n/k)+n%k=n:=Nat.div_add_mod n k;have h2:i*(n/k)<=k*(n/k):=YaW _ h;omega
theorem Zj9(i n k bn bk:Nat)(w:World)(hi:i<=100000000)(hn:n<=1000000000)(hk1:1<=k)(hk:k<=100000000)(hik:i<=k)(c1:w.cell? ⟨bn,0,none⟩=some (.int .i64 n))(c2:w.cell? ⟨bk,0,none⟩=some (.int .i64 k)) :
  Calls prog 222 #[.int .i64 i,.pointer (some ⟨bn,0,none⟩),.pointer (some ⟨bk,0,none⟩)] w fun e w'=>e=.returned (.int .i64 (bnd n k i))/\∃nq,w'=w.drewN nq:=by
 go_enter func222,ntmps222
 go_wp2_with fail
 go_quiet (fail)
 go_wp2
 all_goals go_ret
 ·have h':n%k<=i:=by
   have:((n%k:Nat):Int)=(n:Int)%(k:Int):=by simp
   omega
  refine⟨ZaG ?_,_,rfl⟩
  show wrap64 (wrap64 ((i:Int)*wrap64 ((n:Int)/(k:Int)))+(n:Int)%(k:Int))=_
  have e:(n:Int)%(k:Int)=((n%k:Nat):Int):=by simp
  rw[e,Zj8 i n k (n%k) hi hn hk1 hik h'];unfold bnd;rw[Nat.min_eq_right h']
 ·have h':i<=n%k:=by
   have:((n%k:Nat):Int)=(n:Int)%(k:Int):=by simp
   omega
  refine⟨ZaG ?_,_,rfl⟩
  show wrap64 (wrap64 ((i:Int)*wrap64 ((n:Int)/(k:Int)))+(i:Int))=_
  rw[Zj8 i n k i hi hn hk1 hik (YaF _)];unfold bnd;rw[Nat.min_eq_left h']
theorem Zgv(n k i:Nat)(h:i<k):(ZfW n k)[i]?=some ((bnd n k i:Int),(bnd n k (i+1):Int)):=by
 simp[ZfW,h]
theorem ZeE(n s i:Nat)(h:i<cnt n s):(Zat n s)[i]?=some (((i*s:Nat):Int),((i*s+min s (n-i*s):Nat):Int)):=by
 simp[Zat,h]
theorem Zka(n k:Int)(w:World)(h:n<0\/k<1) :
  Calls prog 171 #[.int .i64 n,.int .i64 k] w (Zal w 218 2 0 (rv [])):=by
 go_enter func171,ntmps171
 go_wp2
 all_goals (go_ret;exact⟨none,0,rfl,World.ownsRow_nil _ _ _ _,(bA0 _).alloc (by simp) _⟩)
theorem Zni(n k:Nat)(w:World)(hn:n<=1000000000)(hk1:1<=k)(hk:k<=10000000) :
  Calls prog 171 #[.int .i64 n,.int .i64 k] w (Zal w 218 2 k (rv (ZfW n k))):=by
 have d1:decide ((n:Int)<0)=false:=YaI (by omega);have d2:decide ((k:Int)<1)=false:=YaI (by omega)
 go_enter func171,ntmps171
 go_wp2_with fail;have hW0:Below w.heap.size w ((w.alloc (.cells #[.int .i64 n] 3)).alloc (.cells #[.int .i64 k] 3)):=(bA0 _).alloc (by simp) _
 go_loopw [6,16] (fun v c wr=>∃i:Nat,i<=k/\c=.int .i64 i/\ZiV ((w.alloc (.cells #[.int .i64 n] 3)).alloc (.cells #[.int .i64 k] 3)) 218 (ZfW n k) i v wr) (fun _ c _=>k-(intOf c).toNat)
 case atStart=>exact⟨0,by omega,rfl,ZiV.start _ _ _⟩
 case round=>
  obtain⟨i,hi,rfl,hcoll⟩:=hrel
  by_cases hlt:i<k
  ·have k0:=Zag.of hcoll.2.2;have b1:wr.cell? ⟨w.heap.size,0,none⟩=some (.int .i64 n):=by rw[k0.1 _ _ (by simp;omega)];simp
   have b2:wr.cell? ⟨w.heap.size+1,0,none⟩=some (.int .i64 k):=by rw[k0.1 _ _ (by simp)];simp
   have HX:=hid (Zgv n k i hlt);have hsz:=k0.2.1;clear k0;go_wp2_with fail;((with_reducible refine(Zj9 i n k _ _ _ (by omega) (by omega) (by omega) (by omega) (by omega) (by exact b1) (by exact b2)).mono ?_);rintro e w1 ⟨rfl,nq,rfl⟩);go_wp2_with fail;rw[show ((i:Int)+1)=((i+1:Nat):Int) by omega];((with_reducible refine(Zj9 (i+1) n k _ _ _ (by omega) (by omega) (by omega) (by omega) (by omega) (Zh2 b1 _) (Zh2 b2 _)).mono ?_);rintro e w1 ⟨rfl,nq2,rfl⟩)
   go_wp2_with (at_builtin;go_must (refine Zav ZfF rfl _ _ rfl ((w.alloc (.cells #[.int .i64 n] 3)).alloc (.cells #[.int .i64 k] 3)).heap.size _ i (rv ((ZfW n k).take i)) rfl (by exact hcoll.2.1) #[.int .i64 (bnd n k i),.int .i64 (bnd n k (i+1))] _ rfl (by simp) rfl (Za4 _ _) (by unfold maxLen;omega) (by omega) hsz ?_);intro A' cap' w1 hown1 hb1)
   go_roundw
   case rel=>exact⟨i+1,by omega,by go_num,hcoll.next HX hown1 ((below_drewN (bR0 _ _) _).trans hb1)⟩
   case measure=>simp[intOf];omega
  ·go_wp2;go_ret;exact(hcoll.done (hid (Zbe n k)) hi hlt).lift hW0
theorem Zhq(n s:Int)(w:World)(h:n<1\/s<1) :
  Calls prog 251 #[.int .i64 n,.int .i64 s] w (Zal w 355 2 0 (rv [])):=by
 go_enter func251,ntmps251
 go_wp2
 all_goals (go_ret;exact⟨none,0,rfl,World.ownsRow_nil _ _ _ _,bR0 _ _⟩)
theorem ZcR(a b:Nat)(w:World)(ha1:1<=a)(ha:a<=10000000)(hb1:1<=b)(hb:b<=9223372036854775807) :
  Calls prog 251 #[.int .i64 a,.int .i64 b] w (Zal w 355 2 (cnt a b) (rv (Zat a b))):=by
 have hc:=Zci a b;have d1:decide ((a:Int)<1)=false:=YaI (by omega);have d2:decide ((b:Int)<1)=false:=YaI (by omega)
 go_enter func251,ntmps251
 go_wp2_with fail
 go_loopw [5,6] (fun v c wr=>∃i q:Nat,i<=cnt a b/\Hid (q=min (i*b) a)/\c=.int .i64 q/\ZiV w 355 (Zat a b) i v wr) (fun _ c _=>a-(intOf c).toNat)
 case atStart=>exact⟨0,0,by omega,hid (by simp),rfl,ZiV.start _ _ _⟩
 case round=>
  obtain⟨i,q,hi,hq,rfl,hcoll⟩:=hrel
  by_cases hlt:q<a
  ·have hqi:i*b=q:=by have:=hq.out;omega
   have hic:i<cnt a b:=(ZfD a b i ha1 hb1).2 (by omega);have HX:=hid (ZeE a b i hic);rw[hqi] at HX;have hnext:(i+1)*b=q+b:=by rw[Nat.add_mul,hqi];omega
   have HN:=hid hnext;clear hnext hqi
   by_cases hm:b<a-q
   ·go_wp2_with (at_builtin;refine Zav ZpG rfl _ _ rfl w.heap.size _ i (rv ((Zat a b).take i)) rfl hcoll.2.1 _ _ rfl (by simp) rfl (Za4 _ _) (by unfold maxLen;omega) (by omega) hcoll.2.2.size ?_;intro A' cap' w1 hown1 hb1)
    go_roundw
    case rel=>exact⟨i+1,q+b,by omega,hid (by rw[HN.out];omega),by go_num,hcoll.next (by have:=HX.out;rw[Nat.min_eq_left (by omega)] at this;exact hid this) hown1 hb1⟩
    case measure=>simp[intOf];omega
   ·go_wp2_with (at_builtin;refine Zav ZpG rfl _ _ rfl w.heap.size _ i (rv ((Zat a b).take i)) rfl hcoll.2.1 _ _ rfl (by simp) rfl (Za4 _ _) (by unfold maxLen;omega) (by omega) hcoll.2.2.size ?_;intro A' cap' w1 hown1 hb1)
    go_roundw
    case rel=>exact⟨i+1,a,by omega,hid (by rw[HN.out];omega),rfl,hcoll.next (by have:=HX.out;rw[Nat.min_eq_right (by omega),show q+(a-q)=a by omega] at this;exact hid this) hown1 hb1⟩
    case measure=>simp[intOf];omega
  ·have hnc:¬i<cnt a b:=fun h=>by have:=(ZfD a b i ha1 hb1).1 h;have:=hq.out;omega
   go_wp2;go_ret;exact hcoll.done (hid (Zan a b)) hi hnc
def Zdo(n k:Nat):List Value:=(List.range k).map fun j=>.int .i64 (ZcQ n k j)
theorem ZlI(k:Nat):Zdo 0 k=List.replicate k (.int .i64 0):=by
 unfold Zdo;simp only[Zof]
 apply List.ext_getElem?
 intro i
 by_cases h:i<k<;>simp[h]
theorem ZdL(n k j:Nat)(h:j<k):(Zdo n k)[j]?=some (.int .i64 (ZcQ n k j)):=by simp[Zdo,h]
theorem Zoh(n k:Nat)(hk:1<=k):(Zdo n k).set (n%k) (.int .i64 ((ZcQ n k (n%k):Int)+1))=Zdo (n+1) k:=by
 apply List.ext_getElem?
 intro i;rw[List.getElem?_set]
 by_cases h:i<k
 ·rw[ZdL _ _ _ h,ZdL _ _ _ h]
  by_cases e:n%k=i
  ·rw[if_pos e,if_pos (by simp[Zdo];omega),<-e,Zog n k hk];simp
  ·rw[if_neg e,ZlH n k i hk h (fun h=>e h.symm)]
 ·rw[YaN (by simp[Zdo];omega),YaN (by simp[Zdo];omega)];rw[if_neg (by have:=Nat.mod_lt n (show 0<k by omega);omega)]
theorem Zkb(n k:Int)(w:World)(h:n<0\/k<1) :
  Calls prog 285 #[.int .i64 n,.int .i64 k] w (Zal w 355 2 0 (rv [])):=by
 go_enter func285,ntmps285
 go_wp2
 all_goals (go_ret;exact⟨none,0,rfl,World.ownsRow_nil _ _ _ _,bR0 _ _⟩)
theorem Zhr:Sl prog 22 3 (.int .i64 0) 1 8:=⟨underlying22,by kernel_rfl,rfl,by omega⟩
theorem ZlJ(n k:Nat)(w:World)(hn:n<=1000000000)(hk1:1<=k)(hk:k<=10000000) :
  Calls prog 285 #[.int .i64 n,.int .i64 k] w (Zal w 355 2 k (rv (ZfW n k))):=by
 have d1:decide ((n:Int)<0)=false:=YaI (by omega);have d2:decide ((k:Int)<1)=false:=YaI (by omega);obtain⟨i0,hi0,hz0,hz1,hz2⟩:=info_parts Zhr.info
 go_enter func285,ntmps285
 go_wp2_with (at_make;go_must (refine wpList_make_full w rfl _ _ _ rfl w.heap.size 3 i0 (.int .i64 0) 1 Zhr.slice hi0 hz0 hz1 .i64 .i64 _ _ k rfl rfl rfl rfl (by rw[hz2];omega) (by unfold maxLen;omega) (YaF _) ?_);intro w1 hown1 hg1)
 have hb1:Below w.heap.size w w1:=(bR0 _ _).grown hg1 (YaF _) (by simp);have hown:w1.ownsRow w.heap.size 3 1 (.slice (some ⟨w.heap.size,0,none⟩) k k) k (Zdo 0 k):=by
  rw[ZlI];have e:(madeCells (Value.int .i64 0).cells (k*1)).toList=List.replicate k (.int .i64 0):=by
   rw[Nat.mul_one];exact toList_madeCells_one _ _
  rw[<-e];exact hown1
 have hlt1:=(hown.lt w.heap.size rfl).2;clear hown1 hg1
 go_loopw [6] (fun c wr=>∃i:Nat,i<=n/\c=.int .i64 i/\wr.ownsRow w.heap.size 3 1 (.slice (some ⟨w.heap.size,0,none⟩) k k) k (Zdo i k)/\Below w.heap.size w wr) (fun c _=>n-(intOf c).toNat)
 case atStart=>exact⟨0,by omega,rfl,hown,hb1⟩
 case round=>
  clear hown hb1 hlt1;obtain⟨i,hi,rfl,hown,hb⟩:=hrel
  by_cases hlt:i<n
  ·have hmod:=Nat.mod_lt i (show 0<k by omega);have hdl:=Zsq i k (i%k);have c1:wr.cell? ⟨w.heap.size,i%k,none⟩=some (.int .i64 (ZcQ i k (i%k))):=by
    rw[hown.cellAt (i%k) (by omega),ZdL _ _ _ hmod]
   have f1:=hown.frozenAt (i%k);obtain⟨hst,_⟩:=hown.stored (i%k) (.int .i64 ((ZcQ i k (i%k):Int)+1));rw[Zoh i k hk1] at hst;have HS:=hid hst;have HO:=hid hown;clear hst hown;go_wp2
   go_roundw
   case rel=>exact⟨i+1,by omega,by go_num,HS.out,hb.setCell (p:=⟨w.heap.size,i%k,none⟩) (YaF _) _⟩
   case measure=>simp[intOf];omega
  ·obtain rfl:i=n:=by omega
   obtain⟨W1,rfl⟩:∃W1:World,W1=wr:=⟨_,rfl⟩;have hlt1:=(hown.lt w.heap.size rfl).2;have HO:=hid hown;clear hown;go_wp2_with fail
   go_loopw [7,8,9] (fun v p c wr=>∃j:Nat,j<=k/\c=.int .i64 j/\p=.int .i64 (bnd i k j)/\ZiV W1 355 (ZfW i k) j v wr) (fun _ _ c _=>k-(intOf c).toNat)
   case atStart=>exact⟨0,by omega,rfl,by rw[Znh];rfl,ZiV.start _ _ _⟩
   case round=>
    obtain⟨j,hj,rfl,rfl,hcoll⟩:=hrel
    by_cases hlt2:j<k
    ·have c1:wr.cell? ⟨w.heap.size,j,none⟩=some (.int .i64 (ZcQ i k j)):=by
      rw[hcoll.2.2.cell (p:=⟨w.heap.size,j,none⟩) hlt1,HO.out.cellAt j (by omega),ZdL _ _ _ hlt2]
     have hbs:=Zng i k j;have hbl:=Zt1 i k (j+1) hk1 (by omega);have HX:=hid (Zgv i k j hlt2);rw[hbs] at hbl HX;have HB:=hid hbs;clear hbs;generalize bnd i k j=x at *;generalize ZcQ i k j=y at *
     go_wp2_with (at_builtin;go_must (refine Zav ZpG rfl _ _ rfl W1.heap.size _ j (rv ((ZfW i k).take j)) rfl hcoll.2.1 _ _ rfl (by simp) rfl (Za4 _ _) (by unfold maxLen;omega) (by omega) hcoll.2.2.size ?_);intro A' cap' w2 hown2 hb2;have c2:w2.cell? ⟨w.heap.size,j,none⟩=some (.int .i64 y):=(hb2.cell (p:=⟨w.heap.size,j,none⟩) hlt1).trans c1)
     go_roundw
     case rel=>exact⟨j+1,by omega,by go_num,by rw[HB.out];simp,hcoll.next HX hown2 hb2⟩
     case measure=>simp[intOf];omega
    ·obtain rfl:j=k:=by omega
     go_wp2;go_ret;exact(hcoll.done (hid (Zbe _ _)) hj hlt2).lift hb
def Blk(w:World)(g:Nat)(t:TypeId)(cs:Array Value):Prop:=w.heap[g]?=some (.cells cs t (0,0))
theorem Rd.lt{w:World}{size:Nat}{A:Option Addr}{n:Nat}{xs:List Value}(h:Rd w size A n xs):∀b o,A=some ⟨b,o,none⟩->0<n->b<w.heap.size:=by
 intro b o e hn;obtain⟨b',o',e',hlt,_⟩:=h.2 hn;rw[e] at e';injection e' with e'
 injection e' with e1
 subst e1;exact hlt
end
section
open Go.RowKit
variable{w w':World}{g:Nat}{t:TypeId}{cs:Array Value}
theorem Blk.lt(h:Blk w g t cs):g<w.heap.size:=by
 rcases Nat.lt_or_ge g w.heap.size with hlt|hge
 ·exact hlt
 ·unfold Blk at h;rw[Array.getElem?_eq_none hge] at h;cases h
theorem Blk.cell(h:Blk w g t cs)(i:Nat):w.cell? ⟨g,i,none⟩=cs[i]?:=cell_of_row w g i cs t (0,0) h
theorem cl12{w:World}{g:Nat}{t:TypeId}{a0 a1 a2 a3 a4 a5 a6 a7 a8 a9 a10 a11:Value}{r:List Value}(h:Blk w g t (a0::a1::a2::a3::a4::a5::a6::a7::a8::a9::a10::a11::r).toArray):w.cell? ⟨g,0,none⟩=some a0∧w.cell? ⟨g,1,none⟩=some a1∧w.cell? ⟨g,2,none⟩=some a2∧w.cell? ⟨g,3,none⟩=some a3∧w.cell? ⟨g,4,none⟩=some a4∧w.cell? ⟨g,5,none⟩=some a5∧w.cell? ⟨g,6,none⟩=some a6∧w.cell? ⟨g,7,none⟩=some a7∧w.cell? ⟨g,8,none⟩=some a8∧w.cell? ⟨g,9,none⟩=some a9∧w.cell? ⟨g,10,none⟩=some a10∧w.cell? ⟨g,11,none⟩=some a11:=
 ⟨h.cell 0,h.cell 1,h.cell 2,h.cell 3,h.cell 4,h.cell 5,h.cell 6,h.cell 7,h.cell 8,h.cell 9,h.cell 10,h.cell 11⟩
theorem cl13{w:World}{g:Nat}{t:TypeId}{a0 a1 a2 a3 a4 a5 a6 a7 a8 a9 a10 a11 a12:Value}{r:List Value}(h:Blk w g t (a0::a1::a2::a3::a4::a5::a6::a7::a8::a9::a10::a11::a12::r).toArray):w.cell? ⟨g,0,none⟩=some a0∧w.cell? ⟨g,1,none⟩=some a1∧w.cell? ⟨g,2,none⟩=some a2∧w.cell? ⟨g,3,none⟩=some a3∧w.cell? ⟨g,4,none⟩=some a4∧w.cell? ⟨g,5,none⟩=some a5∧w.cell? ⟨g,6,none⟩=some a6∧w.cell? ⟨g,7,none⟩=some a7∧w.cell? ⟨g,8,none⟩=some a8∧w.cell? ⟨g,9,none⟩=some a9∧w.cell? ⟨g,10,none⟩=some a10∧w.cell? ⟨g,11,none⟩=some a11∧w.cell? ⟨g,12,none⟩=some a12:=
 ⟨h.cell 0,h.cell 1,h.cell 2,h.cell 3,h.cell 4,h.cell 5,h.cell 6,h.cell 7,h.cell 8,h.cell 9,h.cell 10,h.cell 11,h.cell 12⟩
theorem cl14{w:World}{g:Nat}{t:TypeId}{a0 a1 a2 a3 a4 a5 a6 a7 a8 a9 a10 a11 a12 a13:Value}{r:List Value}(h:Blk w g t (a0::a1::a2::a3::a4::a5::a6::a7::a8::a9::a10::a11::a12::a13::r).toArray):w.cell? ⟨g,0,none⟩=some a0∧w.cell? ⟨g,1,none⟩=some a1∧w.cell? ⟨g,2,none⟩=some a2∧w.cell? ⟨g,3,none⟩=some a3∧w.cell? ⟨g,4,none⟩=some a4∧w.cell? ⟨g,5,none⟩=some a5∧w.cell? ⟨g,6,none⟩=some a6∧w.cell? ⟨g,7,none⟩=some a7∧w.cell? ⟨g,8,none⟩=some a8∧w.cell? ⟨g,9,none⟩=some a9∧w.cell? ⟨g,10,none⟩=some a10∧w.cell? ⟨g,11,none⟩=some a11∧w.cell? ⟨g,12,none⟩=some a12∧w.cell? ⟨g,13,none⟩=some a13:=
 ⟨h.cell 0,h.cell 1,h.cell 2,h.cell 3,h.cell 4,h.cell 5,h.cell 6,h.cell 7,h.cell 8,h.cell 9,h.cell 10,h.cell 11,h.cell 12,h.cell 13⟩
theorem cl15{w:World}{g:Nat}{t:TypeId}{a0 a1 a2 a3 a4 a5 a6 a7 a8 a9 a10 a11 a12 a13 a14:Value}{r:List Value}(h:Blk w g t (a0::a1::a2::a3::a4::a5::a6::a7::a8::a9::a10::a11::a12::a13::a14::r).toArray):w.cell? ⟨g,0,none⟩=some a0∧w.cell? ⟨g,1,none⟩=some a1∧w.cell? ⟨g,2,none⟩=some a2∧w.cell? ⟨g,3,none⟩=some a3∧w.cell? ⟨g,4,none⟩=some a4∧w.cell? ⟨g,5,none⟩=some a5∧w.cell? ⟨g,6,none⟩=some a6∧w.cell? ⟨g,7,none⟩=some a7∧w.cell? ⟨g,8,none⟩=some a8∧w.cell? ⟨g,9,none⟩=some a9∧w.cell? ⟨g,10,none⟩=some a10∧w.cell? ⟨g,11,none⟩=some a11∧w.cell? ⟨g,12,none⟩=some a12∧w.cell? ⟨g,13,none⟩=some a13∧w.cell? ⟨g,14,none⟩=some a14:=
 ⟨h.cell 0,h.cell 1,h.cell 2,h.cell 3,h.cell 4,h.cell 5,h.cell 6,h.cell 7,h.cell 8,h.cell 9,h.cell 10,h.cell 11,h.cell 12,h.cell 13,h.cell 14⟩
theorem cv0{w:World}{g:Nat}{t:TypeId}{a0:Value}{r:List Value}(h:Blk w g t (a0::r).toArray):w.cell? ⟨g,0,none⟩=some a0:=h.cell 0
theorem cv1{w:World}{g:Nat}{t:TypeId}{a0 a1:Value}{r:List Value}(h:Blk w g t (a0::a1::r).toArray):w.cell? ⟨g,1,none⟩=some a1:=h.cell 1
theorem cv2{w:World}{g:Nat}{t:TypeId}{a0 a1 a2:Value}{r:List Value}(h:Blk w g t (a0::a1::a2::r).toArray):w.cell? ⟨g,2,none⟩=some a2:=h.cell 2
theorem cv3{w:World}{g:Nat}{t:TypeId}{a0 a1 a2 a3:Value}{r:List Value}(h:Blk w g t (a0::a1::a2::a3::r).toArray):w.cell? ⟨g,3,none⟩=some a3:=h.cell 3
theorem cv4{w:World}{g:Nat}{t:TypeId}{a0 a1 a2 a3 a4:Value}{r:List Value}(h:Blk w g t (a0::a1::a2::a3::a4::r).toArray):w.cell? ⟨g,4,none⟩=some a4:=h.cell 4
theorem cv5{w:World}{g:Nat}{t:TypeId}{a0 a1 a2 a3 a4 a5:Value}{r:List Value}(h:Blk w g t (a0::a1::a2::a3::a4::a5::r).toArray):w.cell? ⟨g,5,none⟩=some a5:=h.cell 5
theorem cv6{w:World}{g:Nat}{t:TypeId}{a0 a1 a2 a3 a4 a5 a6:Value}{r:List Value}(h:Blk w g t (a0::a1::a2::a3::a4::a5::a6::r).toArray):w.cell? ⟨g,6,none⟩=some a6:=h.cell 6
theorem cv7{w:World}{g:Nat}{t:TypeId}{a0 a1 a2 a3 a4 a5 a6 a7:Value}{r:List Value}(h:Blk w g t (a0::a1::a2::a3::a4::a5::a6::a7::r).toArray):w.cell? ⟨g,7,none⟩=some a7:=h.cell 7
theorem cv8{w:World}{g:Nat}{t:TypeId}{a0 a1 a2 a3 a4 a5 a6 a7 a8:Value}{r:List Value}(h:Blk w g t (a0::a1::a2::a3::a4::a5::a6::a7::a8::r).toArray):w.cell? ⟨g,8,none⟩=some a8:=h.cell 8
theorem cv9{w:World}{g:Nat}{t:TypeId}{a0 a1 a2 a3 a4 a5 a6 a7 a8 a9:Value}{r:List Value}(h:Blk w g t (a0::a1::a2::a3::a4::a5::a6::a7::a8::a9::r).toArray):w.cell? ⟨g,9,none⟩=some a9:=h.cell 9
theorem cv10{w:World}{g:Nat}{t:TypeId}{a0 a1 a2 a3 a4 a5 a6 a7 a8 a9 a10:Value}{r:List Value}(h:Blk w g t (a0::a1::a2::a3::a4::a5::a6::a7::a8::a9::a10::r).toArray):w.cell? ⟨g,10,none⟩=some a10:=h.cell 10
theorem cv11{w:World}{g:Nat}{t:TypeId}{a0 a1 a2 a3 a4 a5 a6 a7 a8 a9 a10 a11:Value}{r:List Value}(h:Blk w g t (a0::a1::a2::a3::a4::a5::a6::a7::a8::a9::a10::a11::r).toArray):w.cell? ⟨g,11,none⟩=some a11:=h.cell 11
theorem cv12{w:World}{g:Nat}{t:TypeId}{a0 a1 a2 a3 a4 a5 a6 a7 a8 a9 a10 a11 a12:Value}{r:List Value}(h:Blk w g t (a0::a1::a2::a3::a4::a5::a6::a7::a8::a9::a10::a11::a12::r).toArray):w.cell? ⟨g,12,none⟩=some a12:=h.cell 12
theorem cv13{w:World}{g:Nat}{t:TypeId}{a0 a1 a2 a3 a4 a5 a6 a7 a8 a9 a10 a11 a12 a13:Value}{r:List Value}(h:Blk w g t (a0::a1::a2::a3::a4::a5::a6::a7::a8::a9::a10::a11::a12::a13::r).toArray):w.cell? ⟨g,13,none⟩=some a13:=h.cell 13
theorem cv14{w:World}{g:Nat}{t:TypeId}{a0 a1 a2 a3 a4 a5 a6 a7 a8 a9 a10 a11 a12 a13 a14:Value}{r:List Value}(h:Blk w g t (a0::a1::a2::a3::a4::a5::a6::a7::a8::a9::a10::a11::a12::a13::a14::r).toArray):w.cell? ⟨g,14,none⟩=some a14:=h.cell 14
theorem Blk.frozen(h:Blk w g t cs)(i:Nat):w.frozen? ⟨g,i,none⟩=false:=by
 unfold Blk at h;simp[World.frozen?,h]
theorem Blk.alloc(h:Blk w g t cs)(o:Obj):Blk (w.alloc o) g t cs:=(Below.heap_alloc w o g h.lt).trans h
theorem Blk.new(w:World)(t:TypeId)(cs:Array Value):Blk (w.alloc (.cells cs t)) w.heap.size t cs:=heap_alloc_new w _
theorem Blk.new'{w:World}{g:Nat}(t:TypeId)(cs:Array Value)(h:w.heap.size=g):Blk (w.alloc (.cells cs t)) g t cs:=by subst h;exact Blk.new w t cs
theorem Blk.drew(h:Blk w g t cs):Blk w.drew g t cs:=h
theorem Blk.drewN(h:Blk w g t cs)(n:Nat):Blk (w.drewN n) g t cs:=h
theorem Blk.set_(h:Blk w g t cs)(i:Nat)(u:Value):Blk (w.setCell ⟨g,i,none⟩ u) g t (cs.setIfInBounds i u):=by
 unfold Blk at h ⊢;simp[World.setCell,Array.getElem?_modify,h]
theorem Blk.far(h:Blk w g t cs){p:Addr}(hp:g≠p.block)(u:Value):Blk (w.setCell p u) g t cs:=(Below.heap_setCell w p u g hp).trans h
theorem Blk.below{B:Nat}(h:Blk w g t cs)(hb:Below B w w')(hg:g<B):Blk w' g t cs:=(hb.block g hg).trans h
theorem Blk.kept(h:Blk w g t cs)(hb:Below w.heap.size w w'):Blk w' g t cs:=h.below hb h.lt
end
section
open Go.RowKit
variable{a w w':World}{row:Option Nat}{g:Nat}
theorem ZlK(h:w.grownBy w' (some g)){b o:Nat}(hb:b<w.heap.size)(hne:b≠g):w'.cell? ⟨b,o,none⟩=w.cell? ⟨b,o,none⟩:=
 World.cell?_of_block (h.block b hb (by simpa using hne))
end
section
open Go.RowKit
theorem Rd.grown{w w':World}{size:Nat}{A:Option Addr}{n g:Nat}{xs:List Value}(h:Rd w size A n xs)(hg:w.grownBy w' (some g))(ha:∀b o,A=some ⟨b,o,none⟩->0<n->b≠g):Rd w' size A n xs:=by
 refine⟨h.1,fun hn=>?_⟩;obtain⟨b,o,e,hlt,hc⟩:=h.2 hn;refine⟨b,o,e,YaK hlt hg.size,fun j u hu=>?_⟩;rw[ZlK hg hlt (ha b o e hn)];exact hc j u hu
end
section
open Go.RowKit
variable{w w':World}{g:Nat}{t:TypeId}{cs:Array Value}
theorem Blk.grown{row:Option Nat}(h:Blk w g t cs)(hb:w.grownBy w' row)(hg:some g≠row):Blk w' g t cs:=(hb.block g h.lt hg).trans h
theorem Blk.ne_{g':Nat}{t':TypeId}{cs':Array Value}(h:Blk w g t cs)(h':Blk w g' t' cs')(hne:t≠t'):g≠g':=by
 rintro rfl;unfold Blk at h h';rw[h] at h';injection h' with h'
 injection h' with _ ht
 exact hne ht
end
section
open Go.RowKit
variable{a w w':World}{row:Option Nat}{g:Nat}
theorem Zgc(h:a.grownBy w row)(n:Nat):a.grownBy (w.drewN n) row:=⟨h.os,h.tape,h.output,h.size,h.block⟩
theorem ZcS(h:a.grownBy w row):a.grownBy w.drew row:=⟨h.os,h.tape,h.output,h.size,h.block⟩
theorem Znj(h:a.grownBy w row)(o:Obj):a.grownBy (w.alloc o) row:=
 ⟨h.os,h.tape,h.output,YaH h.size (by simp),fun i hi hne=>(Below.heap_alloc w o i (YaK hi h.size)).trans (h.block i hi hne)⟩
theorem Zak(h:a.grownBy w (some g)){p:Addr}(hp:p.block=g\/a.heap.size<=p.block)(u:Value):a.grownBy (w.setCell p u) (some g):=
 ⟨h.os,h.tape,h.output,by simpa [World.setCell] using h.size,fun i hi hne=>(Below.heap_setCell w p u i (by
  rintro rfl
  rcases hp with hp|hp
  ·exact hne (by rw[hp])
  ·omega)).trans (h.block i hi hne)⟩
theorem Zcj(h:Below a.heap.size a w)(row:Option Nat):a.grownBy w row:=⟨h.os,h.tape,h.output,h.size,fun i hi _=>h.block i hi⟩
theorem ZiX(h:a.grownBy w row)(hb:Below a.heap.size w w'):a.grownBy w' row:=
 ⟨hb.os.trans h.os,hb.tape.trans h.tape,hb.output.trans h.output,YaH h.size hb.size,fun i hi hne=>(hb.block i hi).trans (h.block i hi hne)⟩
theorem ZpH(h:a.grownBy w row)(hb:Below w.heap.size w w'):a.grownBy w' row:=ZiX h (hb.mono h.size)
theorem ZaB(hb:Below a.heap.size a w)(h:w.grownBy w' row):a.grownBy w' row:=
 ⟨h.os.trans hb.os,h.tape.trans hb.tape,h.output.trans hb.output,YaH hb.size h.size,fun i hi hne=>(h.block i (YaK hi hb.size) hne).trans (hb.block i hi)⟩
theorem Zai{B:Nat}(hb:Below B a w)(hB:B<=w.heap.size)(h:w.grownBy w' (some g))(hg:B<=g):Below B a w':=hb.grown h hB (fun k e=>by cases e;exact hg)
end
section
open Go.RowKit
theorem Za9{w:World}{v:Nat}{t:TypeId}{x y:Value}(h:Blk w v t #[x,y])(a b:Value) :
  w.grownBy ((w.setCell ⟨v,0,none⟩ a).setCell ⟨v,1,none⟩ b) (some v)/\Blk ((w.setCell ⟨v,0,none⟩ a).setCell ⟨v,1,none⟩ b) v t #[a,b]:=
 ⟨Zak (p:=⟨v,1,none⟩) (Zak (p:=⟨v,0,none⟩) (World.grownBy.refl w _) (.inl rfl) a) (.inl rfl) b,by simpa using (h.set_ 0 a).set_ 1 b⟩
theorem Zbf{w:World}{base:Nat}{e:TypeId}{size n c:Nat}{A:Option Addr}{xs:List Value}(h:w.ownsRow base e size (.slice A n c) n xs):∀b o,A=some ⟨b,o,none⟩->base<=b/\b<w.heap.size:=by
 intro b o ha;subst ha
 rcases h.2 with⟨hv,_⟩|⟨g,cap,cur,hv,hb,_⟩
 ·cases hv
 ·injection hv with hv
  injection hv with hv
  injection hv with h1 h2
  subst h1;subst h2;exact h.lt b rfl
theorem Zab{w:World}{g:Nat}{t:TypeId}{cs:Array Value}{base:Nat}{e:TypeId}{size n:Nat}{v:Value}{xs:List Value}(h:w.ownsRow base e size v n xs)(hg:Blk w g t cs)(hne:e≠t):v.ownBlock≠some g:=by
 rcases h.2 with⟨rfl,_⟩|⟨g',cap,cur,rfl,_,hh,_⟩
 ·simp[Value.ownBlock]
 ·intro he;have:g'=g:=by simpa [Value.ownBlock] using he
  subst this;exact Blk.ne_ (t:=e) hh hg hne rfl
theorem Blk.other{w w':World}{g:Nat}{t:TypeId}{cs:Array Value}{base:Nat}{e:TypeId}{size n:Nat}{v:Value}{xs:List Value}(h:Blk w g t cs)(hown:w.ownsRow base e size v n xs)(hg:w.grownBy w' v.ownBlock)(hne:e≠t):Blk w' g t cs:=
 h.grown hg (fun e'=>Zab hown h hne e'.symm)
theorem ZaM{P:Program}{w:World}{ops:Array Oper}{rest:List Oper}{o:Oper}{a:Act}{Q:Exit->Act->World->Prop}{t e:TypeId}{z:Value}{size bytes:Nat}
  (sl:Sl P t e z size bytes) (hgd:o.guard=none) (s x:Operand) (ho:o.op=.call { callee:=.builtin .append,args:=#[s,x],argTypes:=#[t,t] })
  (base:Nat) (v:Value) (n:Nat) (xs:List Value) (hs:a.eval s=v) (hown:w.ownsRow base e size v n xs)
  (news:Array Value) (g:Nat) (hx:a.eval x=.slice (some ⟨g,0,none⟩) 1 1) (hg:g=w.heap.size) (hl:news.size=size) (h1:∀u∈news.toList,u.oneCell'=true)
  (h63:n+1<=maxLen) (hbytes:(n+1)*bytes<=140737488355328) (hbase:base<=w.heap.size)
  (h:∀A' cap' w',w'.ownsRow base e size (.slice A' (n+1) cap') (n+1) (xs++news.toList)->Below base w w'->w.grownBy w' v.ownBlock->wpList P ops Q rest (a.put o.dst (.slice A' (n+1) cap')) w') :
  wpList P ops Q (o::rest) a (w.alloc (.cells news e)):=by
 subst hg;obtain⟨i,hi,hz0,hz1,hz2⟩:=info_parts sl.info;refine wpList_append_own _ hgd s x t ho base e i z size bytes sl.slice hi hz0 hz1 hz2 sl.cells sl.pos v n xs hs (hown.alloc _) ⟨w.heap.size,0,none⟩ 1 1 news.toList hx (by simpa using hl) (Zdi w news e) h1 h63 hbytes (by simp;omega) ?_;intro v' w' h2 h3 _;obtain⟨A,cap,rfl,_⟩:=ZaF h2;exact h A cap w' h2 (((bR0 _ _).alloc hbase _).grown h3 (by simp;omega) fun k hk=>(hown.lt k hk).1) (ZaB (bA0 _) h3)
theorem Zh7{P:Program}{f:FuncId}{args:Array Value}{w:World}{n:Nat}{v:Value}
  (h:Calls P f args (w.drewN n) fun e w'=>e=.returned v/\w.drewN n=w'):Calls P f args (w.drewN n) fun e w''=>e=.returned v/\∃m,w''=w.drewN m:=
 h.mono fun _ _ ⟨he,hm⟩=>⟨he,n,hm.symm⟩
structure But(S:Nat->Prop)(w w':World):Prop where
 os:w'.os=w.os
 tape:w'.tape=w.tape
 output:w'.output=w.output
 size:w.heap.size<=w'.heap.size
 block:∀i,i<w.heap.size->¬S i->w'.heap[i]?=w.heap[i]?
end
section
open Go.RowKit
variable{S T:Nat→Prop}{a b c w w':World}{g B:Nat}
theorem But.refl(S:Nat->Prop)(w:World):But S w w:=⟨rfl,rfl,rfl,YaF _,fun _ _ _=>rfl⟩
theorem But.trans(h:But S a b)(k:But S b c):But S a c:=
 ⟨k.os.trans h.os,k.tape.trans h.tape,k.output.trans h.output,YaH h.size k.size,fun i hi hS=>(k.block i (YaK hi h.size) hS).trans (h.block i hi hS)⟩
theorem But.of_below(S:Nat->Prop)(h:Below a.heap.size a b):But S a b:=⟨h.os,h.tape,h.output,h.size,fun i hi _=>h.block i hi⟩
theorem But.of_gr(h:a.grownBy b (some g))(hS:S g):But S a b:=⟨h.os,h.tape,h.output,h.size,fun i hi hn=>h.block i hi (fun e=>hn (by injection e with e;rw[e];exact hS))⟩
theorem But.of_own{v:Value}(h:a.grownBy b v.ownBlock)(hS:∀g,v.ownBlock=some g->S g):But S a b:=⟨h.os,h.tape,h.output,h.size,fun i hi hn=>h.block i hi (fun e=>hn (hS i e.symm))⟩
theorem But.call(h:But S a b)(hb:Below b.heap.size b c):But S a c:=h.trans (.of_below S hb)
theorem But.mono(h:But S a b)(hT:∀i,i<a.heap.size->S i->T i):But T a b:=⟨h.os,h.tape,h.output,h.size,fun i hi hn=>h.block i hi (fun hs=>hn (hT i hi hs))⟩
theorem But.below(h:But S a b)(hB:B<=a.heap.size)(hS:∀i,S i->B<=i):Below B a b:=⟨h.os,h.tape,h.output,h.size,fun i hi=>h.block i (by omega) (fun hs=>by have:=hS i hs;omega)⟩
theorem Rd.but{size n:Nat}{A:Option Addr}{xs:List Value}(h:Rd w size A n xs)(hb:But S w w')(ha:∀b o,A=some ⟨b,o,none⟩->0<n->¬S b):Rd w' size A n xs:=by
 refine⟨h.1,fun hn=>?_⟩;obtain⟨b,o,e,hlt,hc⟩:=h.2 hn;refine⟨b,o,e,YaK hlt hb.size,fun j u hu=>?_⟩;rw[World.cell?_of_block (a:=⟨b,o+j,none⟩) (hb.block b hlt (ha b o e hn))];exact hc j u hu
theorem Blk.but{t:TypeId}{cs:Array Value}(h:Blk w g t cs)(hb:But S w w')(hg:¬S g):Blk w' g t cs:=(hb.block g h.lt hg).trans h
theorem Zap{base:Nat}{e:TypeId}{size n:Nat}{v:Value}{xs:List Value}(h:w.ownsRow base e size v n xs)(hb:But S w w')(hv:∀g,v.ownBlock=some g->¬S g):w'.ownsRow base e size v n xs:=by
 refine⟨h.1,?_⟩;have hlt:=h.lt
 rcases h.2 with h2|⟨g,cap,cur,rfl,hbg,hh,r⟩
 ·exact .inl h2
 ·exact .inr ⟨g,cap,cur,rfl,hbg,(hb.block g (hlt g rfl).2 (hv g rfl)).trans hh,r⟩
end
