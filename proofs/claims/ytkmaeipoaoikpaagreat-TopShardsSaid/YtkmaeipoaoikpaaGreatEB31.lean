/- InOpen, In2, EpPlain, MachC. -/
import Derived.Test.YtkmaeipoaoikpaaGreatEB30
namespace Go.Proofs.YtkmaeipoaoikpaaGreat
set_option linter.all false
set_option maxRecDepth 100000
set_option maxHeartbeats 4000000
open Lib (hid)
section
open Go.ChangeShapes Go.WideShapes Go.ChangeAt Go.RowKit
theorem list15 {α : Type} {l : List α} (h : l.length = 15) : ∃ a0 a1 a2 a3 a4 a5 a6 a7 a8 a9 a10 a11 a12 a13 a14,l = [a0,a1,a2,a3,a4,a5,a6,a7,a8,a9,a10,a11,a12,a13,a14] := by
 match l,h with
 | [a0,a1,a2,a3,a4,a5,a6,a7,a8,a9,a10,a11,a12,a13,a14],_ => exact ⟨_,_,_,_,_,_,_,_,_,_,_,_,_,_,_,rfl⟩
theorem addr_addq (b o j : Nat) : (⟨b,o,none⟩ : Addr).add j = ⟨b,o + j,none⟩ := by
 unfold Addr.add
 by_cases h : j = 0 <;> simp [h]
theorem exV_length (es : List ExS) : (exV es).length = es.length * 2 := by
 induction es with
 | nil => rfl
 | cons e l ih => rw [exV_cons,List.length_cons,List.length_cons,ih,List.length_cons]; omega
theorem inU_wf {l : List Int} (h : ∀ z ∈ l,(Lit.int .u64 z).wf = true) : InU l := fun x hx => by
 have h1 := h x hx
 simp only [Lit.wf,Bool.and_eq_true,decide_eq_true_eq] at h1
 have h2 : (0 : Int) <= x := h1.1
 have h3 : x <= (18446744073709551615 : Int) := h1.2
 exact ⟨h2,by omega⟩
structure ExAt (w : World) (e : ExS) (z : List Int × List Int) : Prop where
 xl : z.1.length = e.1.2.1
 xr : Rd w 1 e.1.1 e.1.2.1 (iv z.1)
 xi : AllIn z.1
 xc : e.1.2.1 <= e.1.2.2
 yl : z.2.length = e.2.2.1
 yr : Rd w 1 e.2.1 e.2.2.1 (iv z.2)
 yi : AllIn z.2
 yc : e.2.2.1 <= e.2.2.2
end
section
open Go.ChangeShapes Go.WideShapes Go.ChangeAt Go.RowKit
variable {H : Type} {enc : TypeId × Value → H} {w : World} {base : Nat} {spare : Nat → Bool} {held : Bool} {r : Reach} {b0 : Nat} {v : Value} {d : DataW H} {p : List MemPlace}
theorem exs_of {fuel : Nat} {c : Value} {x : DataW H × List MemPlace} (hf : DataW.trod enc Tryz.prog w base spare held fuel 25 [c] = some x) :
  ∃ (S : Option Addr) (m cS : Nat) (es : List ExS) (zs : List (List Int × List Int)),c = .slice S m cS /\ es.length = m /\ zs.length = m /\ Rd w 2 S m (exV es) /\ ∀ (i : Nat) (e : ExS) (z : List Int × List Int),es[i]? = some e -> zs[i]? = some z -> ExAt w e z := by
 have hc3 : Tryz.prog.cellsOf 26 = 1 := by kernel_rfl
 have hcr : Tryz.prog.cellsOf 162 = 2 := by kernel_rfl
 rcases Go.Deep.open_slice Tryz.underlying25 hf with ⟨hcs,_⟩ | ⟨a,n,cap,m,fu,D,Pl,hcs,_,hl,hm,hmm,_,hi⟩
 ·obtain rfl : c = .slice none 0 0 := by simpa using hcs
  exact ⟨none,0,0,[],[],rfl,rfl,rfl,Rd.nil _ _ _,fun i e z h => by simp at h⟩
 ·obtain rfl : c = .slice (some a) n cap := by simpa using hcs
  have hnm : n <= m := by rw [hmm]; split <;> omega
  rw [hcr] at hi
  have hall : ∀ i,i < n -> ∃ q : ExS × (List Int × List Int),(w.cell? (a.add (i * 2)) = some (.slice q.1.1.1 q.1.1.2.1 q.1.1.2.2) /\ w.cell? (a.add (i * 2 + 1)) = some (.slice q.1.2.1 q.1.2.2.1 q.1.2.2.2)) /\ ExAt w q.1 q.2 := by
   intro i him
   obtain ⟨cs',hc,ht⟩ := hi i (by omega)
   obtain ⟨_,hcl,hat⟩ := World.cells?_some hc
   obtain ⟨c0,c1,rfl⟩ := list2 hcl
   obtain ⟨m2,hm2⟩ := field_at Tryz.underlying162 ht
   obtain ⟨y5,e5⟩ := hm2 0 _ rfl
   obtain ⟨y6,e6⟩ := hm2 1 _ rfl
   replace e5 : DataW.trod enc Tryz.prog w base spare held m2 26 (List.take (Tryz.prog.cellsOf 26) (List.drop 0 [c0,c1])) = some y5 := e5
   replace e6 : DataW.trod enc Tryz.prog w base spare held m2 26 (List.take (Tryz.prog.cellsOf 26) (List.drop 1 [c0,c1])) = some y6 := e6
   rw [hc3] at e5 e6
   obtain ⟨A1,n1,k1,l1,rfl,a1,a2,a3,a4,_⟩ := nums_of Tryz.underlying26 Tryz.underlying2 (by kernel_rfl) e5
   obtain ⟨A2,n2,k2,l2,rfl,b1,b2,b3,b4,_⟩ := nums_of Tryz.underlying26 Tryz.underlying2 (by kernel_rfl) e6
   have h0 := hat 0 (by omega)
   have h1 := hat 1 (by omega)
   rw [Go.Deep.add_add] at h0 h1
   exact ⟨(((A1,n1,k1),(A2,n2,k2)),(l1,l2)),⟨h0,h1⟩,⟨a2,a3,fun z hz => bounds_i64 (a4 z hz),a1.2.1,b2,b3,fun z hz => bounds_i64 (b4 z hz),b1.2.1⟩⟩
  obtain ⟨f,hf'⟩ := Go.Deep.choose_lt hall
  refine ⟨some a,n,cap,(List.range n).map (fun i => (f i).1),(List.range n).map (fun i => (f i).2),rfl,by simp,by simp,⟨by rw [exV_length]; simp,fun hn => ?_⟩,fun i e z h1 h2 => ?_⟩
  ·obtain ⟨b,o,sp⟩ := a
   have hs : sp = none := by
    have := (hf' 0 hn).1.1
    have := World.cell?_spot this
    simpa [Addr.add] using this
   subst hs
   refine ⟨b,o,rfl,?_,fun j u hu => ?_⟩
   ·have := World.block_lt_of_cell? w _ (hf' 0 hn).1.1
    rw [addr_addq] at this
    exact this
   ·have hlen : (exV ((List.range n).map fun i => (f i).1)).length = n * 2 := by rw [exV_length]; simp
    have hj : j < n * 2 := by
     have := (List.getElem?_eq_some_iff.1 hu).1
     omega
    have hk : ((List.range n).map fun i => (f i).1)[j / 2]? = some (f (j / 2)).1 := by
     have h2 : j / 2 < n := by omega
     simp [h2]
    obtain ⟨g1,g2⟩ := exV_get _ (j / 2) _ hk
    have hfk := (hf' (j / 2) (by omega)).1
    rw [addr_addq,addr_addq] at hfk
    rcases Nat.mod_two_eq_zero_or_one j with hp | hp
    ·rw [show j / 2 * 2 = j by omega] at g1 hfk
     rw [hu] at g1
     injection g1 with g1
     rw [hfk.1,g1]
    ·rw [show j / 2 * 2 + 1 = j by omega] at g2 hfk
     rw [hu] at g2
     injection g2 with g2
     rw [hfk.2,g2]
  ·have hin : i < n := by
    have := (List.getElem?_eq_some_iff.1 h1).1
    simpa using this
   simp [hin] at h1 h2
   subst h1 h2
   exact (hf' i hin).2
theorem shape_input (hv : Value.okWide Tryz.prog w r b0 29 v) (h : DataW.Trod enc Tryz.prog w base spare held 29 v d p) :
  ∃ (A : Option Addr) (n cap : Nat) (l : List Int) (c : Cfg) (S : Option Addr) (m cS : Nat) (es : List ExS) (zs : List (List Int × List Int)) (AP : Option Addr) (P cP : Nat) (P0 : List Int) (AD : Option Addr) (D cD : Nat) (L : List Int),
   v = inV A n cap c S m cS AP P cP AD D cD /\ n <= cap /\ l.length = n /\ Rd w 1 A n (iv l) /\ (In1 c.ra /\ In1 c.mo) /\ es.length = m /\ zs.length = m /\ Rd w 2 S m (exV es) /\ (∀ (i : Nat) (e : ExS) (z : List Int × List Int),es[i]? = some e -> zs[i]? = some z -> ExAt w e z) /\
   P0.length = P /\ Rd w 1 AP P (iv P0) /\ AllIn P0 /\ L.length = D /\ Rd w 1 AD D (uv L) /\ InU L := by
 obtain ⟨⟨l⟩,rfl,hs⟩ := okWide_struct Tryz.underlying29 hv
 have hc : Tryz.prog.cellsOf 29 = 15 := by kernel_rfl
 have hc3 : Tryz.prog.cellsOf 3 = 1 := by kernel_rfl
 have hc6 : Tryz.prog.cellsOf 2 = 1 := by kernel_rfl
 have hcs : Tryz.prog.cellsOf 22 = 1 := by kernel_rfl
 have hcx : Tryz.prog.cellsOf 25 = 1 := by kernel_rfl
 have hcp : Tryz.prog.cellsOf 26 = 1 := by kernel_rfl
 have hcu : Tryz.prog.cellsOf 27 = 1 := by kernel_rfl
 have hcr : Tryz.prog.cellsOf 24 = 12 := by kernel_rfl
 rw [hc] at hs
 obtain ⟨c0,c1,c2,c3,c4,c5,c6,c7,c8,c9,c10,c11,c12,c13,c14,rfl⟩ := list15 (by simpa using hs)
 obtain ⟨fuel,hf⟩ := h
 obtain ⟨m,hm⟩ := field_at Tryz.underlying29 hf
 obtain ⟨y0,e0⟩ := hm 0 _ rfl
 obtain ⟨y1,e1⟩ := hm 1 _ rfl
 obtain ⟨y2,e2⟩ := hm 2 _ rfl
 obtain ⟨y3,e3⟩ := hm 3 _ rfl
 simp only [Value.cells,hcx,hcp,hcu,hcr,List.drop_zero,List.take_succ_cons,List.take_zero,List.drop_succ_cons] at e0 e1 e2 e3
 obtain ⟨m2,hm2⟩ := field_at Tryz.underlying24 e0
 obtain ⟨z0,f0⟩ := hm2 0 _ rfl
 obtain ⟨z1,f1⟩ := hm2 1 _ rfl
 obtain ⟨z2,f2⟩ := hm2 2 _ rfl
 obtain ⟨z3,f3⟩ := hm2 3 _ rfl
 obtain ⟨z4,f4⟩ := hm2 4 _ rfl
 obtain ⟨z5,f5⟩ := hm2 5 _ rfl
 obtain ⟨z6,f6⟩ := hm2 6 _ rfl
 obtain ⟨z7,f7⟩ := hm2 7 _ rfl
 obtain ⟨z8,f8⟩ := hm2 8 _ rfl
 obtain ⟨z9,f9⟩ := hm2 9 _ rfl
 obtain ⟨z10,f10⟩ := hm2 10 _ rfl
 obtain ⟨z11,f11⟩ := hm2 11 _ rfl
 replace f0 : DataW.trod enc Tryz.prog w base spare held m2 22 (List.take (Tryz.prog.cellsOf 22) (List.drop 0 [c0,c1,c2,c3,c4,c5,c6,c7,c8,c9,c10,c11])) = some z0 := f0
 rw [hcs] at f0
 replace f1 : DataW.trod enc Tryz.prog w base spare held m2 3 (List.take (Tryz.prog.cellsOf 3) (List.drop 1 [c0,c1,c2,c3,c4,c5,c6,c7,c8,c9,c10,c11])) = some z1 := f1
 rw [hc3] at f1
 replace f2 : DataW.trod enc Tryz.prog w base spare held m2 2 (List.take (Tryz.prog.cellsOf 2) (List.drop 2 [c0,c1,c2,c3,c4,c5,c6,c7,c8,c9,c10,c11])) = some z2 := f2
 rw [hc6] at f2
 replace f3 : DataW.trod enc Tryz.prog w base spare held m2 2 (List.take (Tryz.prog.cellsOf 2) (List.drop 3 [c0,c1,c2,c3,c4,c5,c6,c7,c8,c9,c10,c11])) = some z3 := f3
 rw [hc6] at f3
 replace f4 : DataW.trod enc Tryz.prog w base spare held m2 3 (List.take (Tryz.prog.cellsOf 3) (List.drop 4 [c0,c1,c2,c3,c4,c5,c6,c7,c8,c9,c10,c11])) = some z4 := f4
 rw [hc3] at f4
 replace f5 : DataW.trod enc Tryz.prog w base spare held m2 3 (List.take (Tryz.prog.cellsOf 3) (List.drop 5 [c0,c1,c2,c3,c4,c5,c6,c7,c8,c9,c10,c11])) = some z5 := f5
 rw [hc3] at f5
 replace f6 : DataW.trod enc Tryz.prog w base spare held m2 3 (List.take (Tryz.prog.cellsOf 3) (List.drop 6 [c0,c1,c2,c3,c4,c5,c6,c7,c8,c9,c10,c11])) = some z6 := f6
 rw [hc3] at f6
 replace f7 : DataW.trod enc Tryz.prog w base spare held m2 3 (List.take (Tryz.prog.cellsOf 3) (List.drop 7 [c0,c1,c2,c3,c4,c5,c6,c7,c8,c9,c10,c11])) = some z7 := f7
 rw [hc3] at f7
 replace f8 : DataW.trod enc Tryz.prog w base spare held m2 3 (List.take (Tryz.prog.cellsOf 3) (List.drop 8 [c0,c1,c2,c3,c4,c5,c6,c7,c8,c9,c10,c11])) = some z8 := f8
 rw [hc3] at f8
 replace f9 : DataW.trod enc Tryz.prog w base spare held m2 3 (List.take (Tryz.prog.cellsOf 3) (List.drop 9 [c0,c1,c2,c3,c4,c5,c6,c7,c8,c9,c10,c11])) = some z9 := f9
 rw [hc3] at f9
 replace f10 : DataW.trod enc Tryz.prog w base spare held m2 3 (List.take (Tryz.prog.cellsOf 3) (List.drop 10 [c0,c1,c2,c3,c4,c5,c6,c7,c8,c9,c10,c11])) = some z10 := f10
 rw [hc3] at f10
 replace f11 : DataW.trod enc Tryz.prog w base spare held m2 3 (List.take (Tryz.prog.cellsOf 3) (List.drop 11 [c0,c1,c2,c3,c4,c5,c6,c7,c8,c9,c10,c11])) = some z11 := f11
 rw [hc3] at f11
 obtain ⟨n1,rfl,w1⟩ := int_of Tryz.underlying3 f1
 obtain ⟨n2,rfl,w2⟩ := int_of Tryz.underlying2 f2
 obtain ⟨n3,rfl,w3⟩ := int_of Tryz.underlying2 f3
 obtain ⟨n4,rfl,w4⟩ := int_of Tryz.underlying3 f4
 obtain ⟨n5,rfl,w5⟩ := int_of Tryz.underlying3 f5
 obtain ⟨n6,rfl,w6⟩ := int_of Tryz.underlying3 f6
 obtain ⟨n7,rfl,w7⟩ := int_of Tryz.underlying3 f7
 obtain ⟨n8,rfl,w8⟩ := int_of Tryz.underlying3 f8
 obtain ⟨n9,rfl,w9⟩ := int_of Tryz.underlying3 f9
 obtain ⟨n10,rfl,w10⟩ := int_of Tryz.underlying3 f10
 obtain ⟨n11,rfl,w11⟩ := int_of Tryz.underlying3 f11
 obtain ⟨A,N,cap,ls,rfl,a1,a2,a3,a4,_⟩ := nums_of Tryz.underlying22 Tryz.underlying3 (by kernel_rfl) f0
 obtain ⟨S,M,cS,es,zs,rfl,x1,x2,x3,x4⟩ := exs_of e1
 obtain ⟨AP,P,cP,P0,rfl,p1,p2,p3,p4,_⟩ := nums_of Tryz.underlying26 Tryz.underlying2 (by kernel_rfl) e2
 obtain ⟨AD,D,cD,L,rfl,d1,d2,d3,d4,_⟩ := nums_of Tryz.underlying27 Tryz.underlying135 (by kernel_rfl) e3
 exact ⟨A,N,cap,ls,⟨n1,n2,n3,n4,n5,n6,n7,n8,n9,n10,n11⟩,S,M,cS,es,zs,AP,P,cP,P0,AD,D,cD,L,rfl,a1.2.1,a2,a3,⟨bounds_i64 w2,bounds_i64 w3⟩,x1,x2,x3,x4,p2,p3,fun z hz => bounds_i64 (p4 z hz),d2,d3,inU_wf d4⟩
end
section
open Go.RowKit
def inOf (A : Option Addr) (n cap : Nat) (l : List Int) (c : Cfg) (S : Option Addr) (m cS : Nat) (es : List ExS) (zs : List (List Int × List Int)) (AP : Option Addr) (P cP : Nat) (P0 : List Int) (AD : Option Addr) (D cD : Nat) (L : List Int) : InC :=
 ⟨A,n,cap,l,c,S,m,cS,es.map fun e => (e.1.1,e.1.2.2,e.2.1,e.2.2.2),szN l 0,szN l (n - 1),fun i => zs.getD (i - 1) ([],[]),AP,P,cP,P0,AD,D,cD,L⟩
end
section
open Go.RowKit
variable {A : Option Addr} {n cap : Nat} {l : List Int} {c : Cfg} {S : Option Addr} {m cS : Nat} {es : List ExS} {zs : List (List Int × List Int)} {AP : Option Addr} {P cP : Nat} {P0 : List Int} {AD : Option Addr} {D cD : Nat} {L : List Int} {w : World}
theorem fits_of (h : okIn l c es m P D = true) (hl : l.length = n) : exsOf (szN l 0) (szN l (n - 1)) (es.map fun e => (e.1.1,e.1.2.2,e.2.1,e.2.2.2)) = es /\ ∀ e ∈ es,e.1.2.1 = szN l 0 /\ e.2.2.1 = szN l (n - 1) := by
 unfold okIn at h
 simp only [Bool.and_eq_true,decide_eq_true_eq] at h
 obtain ⟨-,-,h3,-⟩ := h
 rw [hl] at h3
 have hf : ∀ e ∈ es,e.1.2.1 = szN l 0 /\ e.2.2.1 = szN l (n - 1) := by
  intro e he
  unfold fitsB at h3
  rw [List.all_eq_true] at h3
  have h4 := h3 e he
  unfold fit1 at h4
  simp only [Bool.and_eq_true,decide_eq_true_eq] at h4
  unfold szN
  exact ⟨by omega,by omega⟩
 refine ⟨?_,hf⟩
 unfold exsOf
 rw [List.map_map]
 conv => rhs; rw [<- List.map_id es]
 refine List.map_congr_left (fun e he => ?_)
 obtain ⟨h1,h2⟩ := hf e he
 obtain ⟨⟨a1,a2,a3⟩,⟨b1,b2,b3⟩⟩ := e
 dsimp only at h1 h2
 subst h1 h2
 rfl
theorem inOf_at (hcap : n <= cap) (hl : l.length = n) (hr : Rd w 1 A n (iv l)) (hes : es.length = m) (hzs : zs.length = m) (hre : Rd w 2 S m (exV es)) (hex : ∀ (i : Nat) (e : ExS) (z : List Int × List Int),es[i]? = some e -> zs[i]? = some z -> ExAt w e z) (hpl : P0.length = P) (hrp : Rd w 1 AP P (iv P0)) (hdl : L.length = D) (hrd : Rd w 1 AD D (uv L)) (f : FewG n m P D l c es) : InAt w (inOf A n cap l c S m cS es zs AP P cP P0 AD D cD L) := by
 obtain ⟨h1,h2⟩ := fits_of f.ok hl
 refine ⟨hl,hr,hcap,by show (es.map _).length = m; rw [List.length_map]; exact hes,?_,?_,hpl,hrp,hdl,hrd⟩
 ·show Rd w 2 S m (stv (szN l 0) (szN l (n - 1)) (es.map _))
  rw [<- exV_of,h1]
  exact hre
 ·intro i s hs
  have hs' : (es.map fun e => (e.1.1,e.1.2.2,e.2.1,e.2.2.2))[i]? = some s := hs
  rw [List.getElem?_map] at hs'
  obtain ⟨e,he,rfl⟩ := Option.map_eq_some_iff.1 hs'
  have hi : i < m := by rw [<- hes]; exact (List.getElem?_eq_some_iff.1 he).1
  obtain ⟨z,hz⟩ : ∃ z,zs[i]? = some z := ⟨_,List.getElem?_eq_getElem (by omega)⟩
  have hx := hex i e z he hz
  obtain ⟨g1,g2⟩ := h2 e (List.mem_of_getElem? he)
  have hf : zs.getD (i + 1 - 1) ([],[]) = z := by rw [Nat.add_sub_cancel,List.getD_eq_getElem?_getD,hz]; rfl
  show Rd w 1 e.1.1 (szN l 0) (iv (zs.getD (i + 1 - 1) ([],[])).1) /\ Rd w 1 e.2.1 (szN l (n - 1)) (iv (zs.getD (i + 1 - 1) ([],[])).2)
  rw [hf,<- g1,<- g2]
  exact ⟨hx.xr,hx.yr⟩
theorem inOf_ok (hl : l.length = n) (hc : In1 c.ra /\ In1 c.mo) (hes : es.length = m) (hzs : zs.length = m) (hex : ∀ (i : Nat) (e : ExS) (z : List Int × List Int),es[i]? = some e -> zs[i]? = some z -> ExAt w e z) (hpi : AllIn P0) (hdl : L.length = D) (hu : InU L) (f : FewG n m P D l c es) : (inOf A n cap l c S m cS es zs AP P cP P0 AD D cD L).Ok := by
 obtain ⟨h1,h2⟩ := fits_of f.ok hl
 have hz : ∀ i,i < m -> ∃ e z,es[i]? = some e /\ zs[i]? = some z /\ zs.getD (i + 1 - 1) ([],[]) = z := by
  intro i hi
  obtain ⟨z,hz⟩ : ∃ z,zs[i]? = some z := ⟨_,List.getElem?_eq_getElem (by omega)⟩
  exact ⟨_,z,List.getElem?_eq_getElem (by omega),hz,by rw [Nat.add_sub_cancel,List.getD_eq_getElem?_getD,hz]; rfl⟩
 refine ⟨?_,hl,by show (es.map _).length = m; rw [List.length_map]; exact hes,hdl,rfl,rfl,fun i hi => ?_,fun i hi => ?_,f.few.m60,?_,?_,?_,f.mi,?_,hu,hpi,hc.1,hc.2⟩
 ·show okIn l c (exsOf (szN l 0) (szN l (n - 1)) (es.map _)) m P D = true
  rw [h1]
  exact f.ok
 ·obtain ⟨e,z,he,hz1,hz2⟩ := hz i hi
  have hx := hex i e z he hz1
  obtain ⟨g1,g2⟩ := h2 e (List.mem_of_getElem? he)
  show (zs.getD (i + 1 - 1) ([],[])).1.length = szN l 0 /\ (zs.getD (i + 1 - 1) ([],[])).2.length = szN l (n - 1)
  rw [hz2,hx.xl,hx.yl]
  exact ⟨g1,g2⟩
 ·obtain ⟨e,z,he,hz1,hz2⟩ := hz i hi
  have hx := hex i e z he hz1
  show AllIn (zs.getD (i + 1 - 1) ([],[])).1
  rw [hz2]
  exact hx.xi
 ·have := f.st5; show c.st <= 12; omega
 ·have := f.P40; show P <= 60; omega
 ·have := f.wk; show c.wk <= 8; omega
 ·have := f.few.D2000; show D <= 4000; omega
end
section
open Go.RowKit
theorem swap_count (l : List Int) (i j : Nat) (a : Int) (hi : i < l.length) (hj : j < l.length) : (swapL l i j).count a = l.count a := by
 have e1 : l.getD j 0 = l[j] := by simp [List.getD,hj]
 have e2 : l.getD i 0 = l[i] := by simp [List.getD,hi]
 rw [swapL,e1,e2,List.count_set (by simpa using hj),List.count_set hi,List.getElem_set]
 by_cases h : i = j
 ·subst h
  simp only [if_true]
  by_cases ha : (l[i] == a) = true
  ·have : 0 < l.count a := List.count_pos_iff.2 (by have := beq_iff_eq.1 ha; rw [<- this]; exact List.getElem_mem _)
   have h2 := beq_iff_eq.1 ha
   simp [h2]
   omega
  ·have h2 : ¬ l[i] = a := fun e => ha (by simp [e])
   simp [h2]
 ·rw [if_neg h]
  have p1 : l[i] = a -> 0 < l.count a := fun e => List.count_pos_iff.2 (by rw [<- e]; exact List.getElem_mem _)
  have p2 : l[j] = a -> 0 < l.count a := fun e => List.count_pos_iff.2 (by rw [<- e]; exact List.getElem_mem _)
  by_cases ha : l[i] = a <;> by_cases hb : l[j] = a <;> simp [ha,hb] <;> (first | (have := p1 ha; omega) | (have := p2 hb; omega) | omega)
theorem shuf_count (n : Nat) (ds : List Int) (a : Int) : ∀ k,k <= n - 1 -> (∀ j,j < k -> 0 <= ds.getD j 0 /\ (ds.getD j 0) < (n : Int)) -> (shufTo n ds k).count a = (iotaL n).count a
 | 0 => fun _ _ => rfl
 | k + 1 => fun hk h => by
  have h1 := h k (by omega)
  rw [shufTo,swap_count _ _ _ _ (by rw [shufTo_length]; omega) (by rw [shufTo_length]; omega)]
  exact shuf_count n ds a k (by omega) (fun j hj => h j (by omega))
theorem pem_count (L : List Int) (n s : Nat) (a : Int) (hn : n - 1 <= L.length - s) : (pemL L n s).count a = (iotaL n).count a := by
 refine shuf_count n _ a (n - 1) (Nat.le_refl _) (fun j hj => ?_)
 obtain ⟨x,hx⟩ : ∃ x,L[s + j]? = some x := ⟨_,List.getElem?_eq_getElem (by omega)⟩
 have h := manyL_get L s (bndsL n (n - 1)) j x _ hx (bndsL_get n (n - 1) j hj)
 have h1 := Int.emod_nonneg x (show (n : Int) - (j : Int) ≠ 0 by omega)
 have h2 := Int.emod_lt_of_pos x (show 0 < (n : Int) - (j : Int) by omega)
 rw [List.getD_eq_getElem?_getD,h]
 simp only [Option.getD_some]
 omega
theorem pem_in (L : List Int) (n s : Nat) (hn : n - 1 <= L.length - s) : ∀ x ∈ pemL L n s,0 <= x /\ x < (n : Int) := by
 intro x hx
 have h1 := List.count_pos_iff.2 hx
 rw [pem_count L n s x hn] at h1
 have h2 := List.count_pos_iff.1 h1
 unfold iotaL at h2
 obtain ⟨i,hi,rfl⟩ := List.mem_map.1 h2
 have := List.mem_range.1 hi
 omega
def accP (l : List Int) (K j : Nat) : List Int := l.take (bnd l.length K j)
theorem accP_zero (l : List Int) (K : Nat) : accP l K 0 = [] := by simp [accP,bnd_zero]
theorem accP_step {l : List Int} {K j : Nat} (hj : j < K) : accP l K (j + 1) = accP l K j ++ pieceL l (j : Int) (K : Int) := by
 rw [pieceL,if_pos (by omega),accP,accP,show ((K : Int)).toNat = K by omega,show ((j : Int)).toNat = j by omega]
 have hm := bnd_mono l.length K j (j + 1) (by omega)
 conv => lhs; rw [show bnd l.length K (j + 1) = bnd l.length K j + (bnd l.length K (j + 1) - bnd l.length K j) by omega]
 rw [List.take_add]
theorem accP_end {l : List Int} {K : Nat} (hK : 1 <= K) : accP l K K = l := by rw [accP,bnd_k _ _ hK,List.take_length]
def micL (K : MC) (t a : Int) : List Int := pieceL (pieceL (batchL K.L K.m K.b K.q K.st t) K.x K.pc.m) a K.pc.mi
def exG (K : MC) (P : List Int) (i : Int) : List Int := gradN K.l K.n P K.c.sh (K.f (i.toNat + 1)).1 (K.f (i.toNat + 1)).2
def accG (K : MC) (P G : List Int) (l : List Int) : List Int := l.foldl (fun G i => addAt G 0 (exG K P i) K.NP) G
theorem accG_snoc (K : MC) (P G l : List Int) (i : Int) : accG K P G (l ++ [i]) = addAt (accG K P G l) 0 (exG K P i) K.NP := by simp [accG]
theorem accG_length (K : MC) (P G l : List Int) : (accG K P G l).length = G.length := by
 induction l generalizing G with
 | nil => rfl
 | cons i l ih => rw [accG,List.foldl_cons]; exact (ih _).trans (addAt_length _ _ _ _)
theorem pieceL_mem {l : List Int} {i k x : Int} (h : x ∈ pieceL l i k) : x ∈ l := by
 unfold pieceL at h
 split at h
 ·exact List.mem_of_mem_drop (List.mem_of_mem_take h)
 ·cases h
theorem micL_in {K : MC} (hK : K.Ok) (t a : Int) : ∀ x ∈ micL K t a,0 <= x /\ x < (K.m : Int) := by
 intro x hx
 have h1 := pieceL_mem (pieceL_mem hx)
 unfold batchL at h1
 split at h1
 ·rename_i ht
  have h2 := List.mem_of_mem_drop (List.mem_of_mem_take h1)
  refine pem_in K.L K.m _ ?_ x h2
  have hd := hK.dr
  have hq := hK.smp.hq
  have hE := hK.smp.hE
  have h3 : t.toNat / K.q + 1 <= K.E := by
   rw [<- hE]
   have h4 : t.toNat < K.st := by omega
   have h5 := Nat.div_mul_le_self t.toNat K.q
   have h6 : cnt K.st K.q = (K.st + K.q - 1) / K.q := by rw [cnt_up _ _ hq]
   rw [h6]
   refine (Nat.le_div_iff_mul_le (by omega)).2 ?_
   rw [Nat.succ_mul]
   omega
  have h7 : (t.toNat / K.q + 1) * (K.m - 1) <= K.E * (K.m - 1) := Nat.mul_le_mul_right _ h3
  rw [Nat.succ_mul] at h7
  omega
 ·cases h1
theorem micL_len {K : MC} (hK : K.Ok) (t a : Int) : (micL K t a).length <= 1000 := by
 have h0 : ∀ (l : List Int) (i k : Int),(pieceL l i k).length <= l.length := by
  intro l i k
  unfold pieceL
  split
  ·simp; omega
  ·simp
 refine Nat.le_trans (h0 _ _ _) (Nat.le_trans (h0 _ _ _) ?_)
 unfold batchL
 split
 ·have := hK.smp.hbn
  have := hK.smp.hn
  simp
  omega
 ·simp
theorem machCompute_any (S : Nat -> Prop) (mb : Nat) (K : MC) (s : MS) (k1 t u : Int) (sd ad : Bool) (j1 j2 j3 j4 j5 j6 j7 : Int) (pl pr : Option Addr) (w : World) (hK : K.Ok) (h : MachAt S w mb K s) (hu : -1000 <= u /\ u <= 1000) :
  Calls Tryz.prog 231 #[.pointer (some ⟨mb,0,none⟩),(.agg (mitC k1 t u sd ad j1 j2 j3 j4 j5 j6 j7)),.agg #[.pointer pl,.pointer pr]] w fun e w' => e = .returned (.int .i64 0) /\ MachAt (fun i => S i \/ w.heap.size <= i) w' mb K { s with G := accG K s.P s.G (micL K t u) } /\ But S w w' := by
 obtain ⟨F,a,hM,hF,hMu⟩ := h
 have HM := hid hM
 have HF := hid hF
 have HMu := hid hMu
 have HK := hid hK
 have HU := hid hu
 clear hM hF hMu hK hu
 go_enter Tryz.func231,Tryz.ntmps231
 go_wp2_with fail
 obtain ⟨w1,hw1⟩ : ∃ w1,(w.alloc (.cells (mitC k1 t u sd ad j1 j2 j3 j4 j5 j6 j7) 222)).alloc (.cells #[.pointer pl,.pointer pr] 341) = w1 := ⟨_,rfl⟩
 have hb1 : Below w.heap.size w w1 := by rw [<- hw1]; exact ((Below.refl _ _).alloc (Nat.le_refl _) _).alloc (by simp) _
 have hi1 : Blk w1 w.heap.size 222 (mitC k1 t u sd ad j1 j2 j3 j4 j5 j6 j7) := by rw [<- hw1]; exact (Blk.new _ _ _).alloc _
 rw [hw1]
 have HB1 := hid hb1
 have HI1 := hid hi1
 have HM1 := hid (HM.out.below hb1)
 clear hw1 hb1 hi1
 obtain ⟨lP,lM,lG,-⟩ := HM.out.lens
 have HNW := hid (fun W (kk : Kept w1 W) => netNew_any a.base a.bs K.l K.n K.NP s.P K.c.sh (some ⟨a.gp,0,none⟩) a.cP W (HK.out.net lP HM.out.pin) (HM1.out.fz.here.shp.below kk.2.2) (Rd.of_own (own_below HM1.out.prow kk.2.2)))
 have m3 : w1.cell? ⟨mb,3,none⟩ = some (.pointer (some ⟨a.bs,0,none⟩)) := HM1.out.blk.cell 3
 have m11 : w1.cell? ⟨mb,11,none⟩ = some (.slice (some ⟨a.gp,0,none⟩) K.NP a.cP) := HM1.out.blk.cell 11
 have m10 : w1.cell? ⟨mb,10,none⟩ = some (.int .i64 K.c.sh) := HM1.out.blk.cell 10
 have ml := HM1.out.blk.lt
 have KS : Kept w1 w1.drew := Kept.start w1
 go_region_held3 (fun w' => Kept w1 w') (first | exact kk | exact KS) (first
  | (go_at_call 61; (with_reducible refine (HNW.out _ KS).mono ?_); rintro e w2 ⟨nb,rfl,hnt,hb2⟩; have kk : Kept w1 w2 := KS.call hb2; have HK2 := hid kk; have HNT := hid hnt; clear hnt hb2))
 have HM2 := hid (HM1.out.below HK2.out.2.2)
 have HI2 := hid (HI1.out.kept HK2.out.2.2)
 clear kk KS m3 m11 m10 ml HNW
 obtain ⟨mic,hmic⟩ : ∃ l,micL K t u = l := ⟨_,rfl⟩
 obtain ⟨nI,hnI⟩ : ∃ k,mic.length = k := ⟨_,rfl⟩
 have hn1000 : nI <= 1000 := by rw [<- hnI,<- hmic]; exact micL_len HK.out t u
 have HMI : Hid (∀ W,Kept w2 W -> Calls Tryz.prog 24 #[.pointer (some ⟨a.smb,0,none⟩),.int .i64 t,.int .i64 K.x,.int .i64 K.pc.m,.int .i64 u,.int .i64 K.pc.mi] W (OwnRet W 3 1 nI (iv mic))) := hid (fun W kk => by
  have hm8 := HK.out.pcok.m2
  have hx8 := HK.out.xw
  have hi20 := HK.out.pcok.i2
  have hu := HU.out
  have := smpMicro_any 0 a.smb K.b K.st K.q K.E K.m K.L W HK.out.smp t K.x K.pc.m u K.pc.mi (HM2.out.fz.here.smp.below kk.2.2) (by omega) (by omega) (by omega) (by omega) (by omega) (by omega) (by omega) (by omega)
  have e : pieceL (pieceL (batchL K.L K.m K.b K.q K.st t) K.x K.pc.m) u K.pc.mi = mic := hmic
  rw [e] at this
  unfold CpRet at this
  rw [hnI] at this
  exact this)
 have HPI := hid (fun W (kk : Kept w2 W) A cap (r : Rd W 1 A nI (iv mic)) => dataPick_any a.S A K.m a.cS K.N K.M nI cap mic a.es K.f W hnI (by omega) r (by rw [<- hmic]; exact micL_in HK.out t u) HM2.out.fz.here.esl (by have := HK.out.smp.hn; omega) (Rd.of_own (own_below HM2.out.fz.here.exs kk.2.2)) ((HM2.out.fz.here.exr.below kk.2.2).rd) (by rw [HK.out.hN,szN]; have := (HK.out.net lP HM.out.pin).sz (show 0 < K.n by have := HK.out.n2; omega); unfold szN at this; omega) (by rw [HK.out.hM]; have := (HK.out.net lP HM.out.pin).sz (show K.n - 1 < K.n by have := HK.out.n2; omega); omega) HK.out.fl)
 have HMIC := hid hmic
 have HNI := hid hnI
 clear hmic hnI
 have m4 : w2.cell? ⟨mb,4,none⟩ = some (.slice a.S K.m a.cS) := HM2.out.blk.cell 4
 have m5 : w2.cell? ⟨mb,5,none⟩ = some (.pointer (some ⟨a.smb,0,none⟩)) := HM2.out.blk.cell 5
 have m0 : w2.cell? ⟨mb,0,none⟩ = some (.int .i64 K.x) := HM2.out.blk.cell 0
 have m1 : w2.cell? ⟨mb,1,none⟩ = some (.int .i64 K.pc.m) := HM2.out.blk.cell 1
 have m2 : w2.cell? ⟨mb,2,none⟩ = some (.int .i64 K.pc.mi) := HM2.out.blk.cell 2
 have ml := HM2.out.blk.lt
 have i1 := HI2.out.cell 1
 have i2 := HI2.out.cell 2
 have il := HI2.out.lt
 have KS : Kept w2 w2.drew := Kept.start w2
 go_wp2_with fail
 go_region_held3 (fun w' => Kept w2 w') (first | exact k4 | exact kk | exact KS) (first
  | (go_at_call 24; (with_reducible refine (HMI.out _ KS).mono ?_); rintro e w3 ⟨A3,c3,rfl,ho3,hb3⟩; have kk : Kept w2 w3 := KS.call hb3; have HO3 := hid (Rd.of_own ho3); clear ho3 hb3)
  | (go_at_call 166; (with_reducible refine (HPI.out _ kk A3 c3 HO3.out).mono ?_); rintro e w4 ⟨B4,c4,l4,hl4,rfl,hr4,hs4,hb4⟩; have k4 : Kept w2 w4 := kk.call hb4; have HK4 := hid k4; have HL4 := hid hl4; have HZ4 := hid kk.2.1; have HR4 := hid (own_base hr4 HZ4.out); have HS4 := hid (hs4.base HZ4.out); clear hl4 hr4 hs4 hb4))
 have HM4 := hid (HM2.out.below HK4.out.2.2)
 have HN4 := hid (HNT.out.below HK4.out.2.2)
 have HG4 : Hid (a.gg < w1.heap.size) := hid (HM1.out.grow.lt _ rfl).2
 have HZ12 : Hid (w1.heap.size <= w2.heap.size) := hid HK2.out.2.1
 clear kk k4 KS m4 m5 m0 m1 m2 ml i1 i2 il HMI HPI
 go_wp2_with fail
 go_loopw [71] (fun v wr => ∃ i : Nat,i <= nI /\ v = .int .i64 i /\ wr.ownsRow 0 2 1 (.slice (some ⟨a.gg,0,none⟩) K.NP a.cG) K.NP (iv (accG K s.P s.G (mic.take i))) /\ But (fun b => b = a.gg) w4 wr) (fun v _ => nI - (intOf v).toNat)
 case atStart => exact ⟨0,by omega,rfl,HM4.out.grow,But.refl _ _⟩
 case round =>
  obtain ⟨i,hi,rfl,hz,hb⟩ := hrel
  have hMr := HM4.out.setG hb hz
  have hRr := own_but HR4.out hb (fun g hg e => by have h1 := (HR4.out.lt g hg).1; have h2 := HG4.out; have h3 := HZ12.out; omega)
  have hNr := HN4.out.but hb (fun i e => by rw [e]; exact HG4.out) hMr.fz.here.shp
  by_cases hir : i < nI
  ·obtain ⟨⟨A1,c1,A2,c2⟩,hs4⟩ : ∃ s,l4[i]? = some s := ⟨_,List.getElem?_eq_getElem (by rw [HL4.out]; exact hir)⟩
   obtain ⟨xi,hxi⟩ : ∃ x,mic[i]? = some x := ⟨_,List.getElem?_eq_getElem (by rw [HNI.out]; exact hir)⟩
   obtain ⟨b5,o5,rfl,l5,q0,q1⟩ := stv_rd (Rd.of_own hRr) hs4 hir
   dsimp only at q0 q1
   obtain ⟨hx4,hy4⟩ := HS4.out i _ hs4
   have hpk : pickF K.f mic (i + 1) = K.f (xi.toNat + 1) := by
    unfold pickF
    rw [Nat.add_sub_cancel,List.getD_eq_getElem?_getD,hxi]
    rfl
   rw [hpk] at hx4 hy4
   have hxin := micL_in HK.out t u xi (by rw [HMIC.out]; exact List.mem_of_getElem? hxi)
   obtain ⟨fx,fy⟩ := HK.out.fl xi.toNat (by omega)
   have fi := HK.out.fi xi.toNat (by omega)
   have hxr := own_but hx4 hb (fun g hg e => by have h1 := (hx4.lt g hg).1; have h2 := HG4.out; have h3 := HZ12.out; omega)
   have hyr := own_but hy4 hb (fun g hg e => by have h1 := (hy4.lt g hg).1; have h2 := HG4.out; have h3 := HZ12.out; omega)
   have r1 : (0 : Int) <= (i : Int) := by omega
   have r2 : (i : Int) < (nI : Int) := by omega
   have HIR := hid hir
   have HXI := hid hxi
   have HMR := hid hMr
   have HNR := hid hNr
   have HXR := hid hxr
   have HYR := hid hyr
   have HBR := hid hb
   have HZR := hid hz
   have HFX := hid fx
   have HFY := hid fy
   have HFI := hid fi
   clear hMr hRr hNr hz hb hs4 hxi hx4 hy4 hpk hxin fx fy fi hxr hyr hir
   go_wp2_with fail
   obtain ⟨w5,hw5⟩ : ∃ w5,wr.alloc (.cells #[.slice A1 K.N c1,.slice A2 K.M c2] 162) = w5 := ⟨_,rfl⟩
   have hb5 : Below wr.heap.size wr w5 := by rw [<- hw5]; exact (Below.refl _ _).alloc (Nat.le_refl _) _
   rw [hw5]
   have HB5 := hid hb5
   have HM5 := hid (HMR.out.below hb5)
   have hlx := HFX.out
   have hly := HFY.out
   clear hw5 hb5 q0 q1 l5
   ((with_reducible refine (netGrad_any nb K.l K.n K.NP s.P K.c.sh (K.f (xi.toNat + 1)).1 (K.f (xi.toNat + 1)).2 A1 A2 K.N c1 K.M c2 w5 (HK.out.net lP HM.out.pin) (HNR.out.below HB5.out).net hlx (Rd.of_own (own_below HXR.out HB5.out)) HK.out.hN HFI.out hly (Rd.of_own (own_below HYR.out HB5.out)) HK.out.hM.symm).mono ?_); rintro e w6 ⟨B6,c6,rfl,hr6,hb6⟩)
   have HM6 := hid (HM5.out.below hb6)
   have HR6 := hid hr6
   have HB6 := hid hb6
   have HLG : Hid ((accG K s.P s.G (mic.take i)).length = K.NP) := hid (by rw [accG_length]; exact lG)
   have HLX : Hid ((exG K s.P xi).length = K.NP) := hid (gradN_length (HK.out.net lP HM.out.pin) (by rw [hlx,HK.out.hN]))
   have HAD := hid (add_any (some ⟨a.gg,0,none⟩) B6 a.gg 0 K.NP a.cG c6 K.NP a.cG 0 (accG K s.P s.G (mic.take i)) (exG K s.P xi) w6 (fun _ => rfl) (by omega) (by have := HK.out.np; omega) HLG.out HLX.out HM6.out.grow (Rd.of_own hr6) (fun b o' e h0 e2 => by
    have h1 := (hr6.lt b (by rw [e]; rfl)).1
    have h2 := (HM5.out.grow.lt a.gg rfl).2
    omega))
   clear hr6 hb6 hlx hly
   have m13 : w6.cell? ⟨mb,13,none⟩ = some (.slice (some ⟨a.gg,0,none⟩) K.NP a.cG) := HM6.out.blk.cell 13
   have ml := HM6.out.blk.lt
   go_wp2_with fail
   ((with_reducible refine HAD.out.mono ?_); rintro e w7 ⟨rfl,hz7,hg7⟩)
   have HZ7 := hid hz7
   have HB7 : Hid (But (fun b => b = a.gg) w4 w7) := hid ((HBR.out.call (HB5.out.trans (HB6.out.mono HB5.out.size))).trans (But.of_gr hg7 rfl))
   clear hz7 hg7 m13 ml
   go_wp2_with fail
   go_roundw
   case rel =>
    refine ⟨i + 1,HIR.out,by go_num,?_,HB7.out⟩
    have e : mic.take (i + 1) = mic.take i ++ [xi] := by
     have hlt : i < mic.length := by rw [HNI.out]; exact HIR.out
     rw [take_snoc _ _ hlt]
     have := HXI.out
     rw [List.getElem?_eq_getElem hlt] at this
     injection this with this
     rw [this]
    rw [e,accG_snoc]
    exact HZ7.out
   case measure => simp [intOf]; have := HIR.out; omega
  ·obtain rfl : i = nI := by omega
   have HMR := hid hMr
   have HBR := hid hb
   have HBW : Hid (Below w.heap.size w w4) := hid (HB1.out.trans ((HK2.out.2.2.trans (HK4.out.2.2.mono HK2.out.2.1)).mono HB1.out.size))
   clear hMr hRr hNr hz hb
   go_wp2_with fail
   go_ret
   have e1 : micL K t u = mic := HMIC.out
   rw [List.take_of_length_le (by rw [HNI.out]; exact Nat.le_refl _)] at HMR
   have hg : S a.gg := HMu.out a.gg (.inr (.inr (.inr (.inl rfl))))
   refine ⟨rfl,⟨F,a,?_,fun i hi => .inl (HF.out i hi),fun i hi => .inl (HMu.out i hi)⟩,(But.of_below S HBW.out).trans (HBR.out.mono (fun i _ e => by rw [e]; exact hg))⟩
   rw [e1]
   exact HMR.out
end
end Go.Proofs.YtkmaeipoaoikpaaGreat
