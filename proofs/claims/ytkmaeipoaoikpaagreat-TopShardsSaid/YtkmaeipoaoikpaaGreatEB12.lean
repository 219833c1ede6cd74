/- Net3, Net4, MatTurn2, MatBack. -/
import Derived.Test.YtkmaeipoaoikpaaGreatEB11
namespace Go.Proofs.YtkmaeipoaoikpaaGreat
set_option linter.all false
set_option maxRecDepth 100000
set_option maxHeartbeats 4000000
open Lib (hid)
section
open Go.RowKit
theorem link_cells {w : World} {base n k c : Nat} {A : Option Addr} {l : List Int} {ls : List StS} {s : StS} (h : w.ownsRow base 275 4 (.slice A n c) n (lkV l ls)) (hx : ls[k]? = some s) (hk : k < n) :
  ∃ b,A = some ⟨b,0,none⟩ /\ b < w.heap.size /\ ∀ j,j < 4 -> w.cell? ⟨b,k * 4 + j,none⟩ = (lkE l k s)[j]? := by
 obtain ⟨b,o,e',hlt,hc⟩ := (Rd.of_own h).2 (by omega)
 obtain ⟨A',cap',hv,_,_,hg⟩ := own_form h
 injection hv with hA _ _
 obtain ⟨g,hg1,_,_⟩ := hg (by omega)
 rw [hA,hg1] at e'
 injection e' with e'
 injection e' with e1 e2
 subst e1 e2
 refine ⟨g,by rw [hA,hg1],hlt,fun j hj => ?_⟩
 have h2 := lkV_get l ls k j s hj hx
 have hj' : j < (lkE l k s).length := hj
 rw [List.getElem?_eq_getElem hj'] at h2 ⊢
 have := hc _ _ h2
 rwa [Nat.zero_add] at this
theorem vecs_cell {w : World} {base n k c : Nat} {A : Option Addr} {ss : List Sl3'} {s : Sl3'} {e : TypeId} (h : w.ownsRow base e 1 (.slice A n c) n (ss.map slv)) (hx : ss[k]? = some s) (hk : k < n) :
  ∃ b,A = some ⟨b,0,none⟩ /\ b < w.heap.size /\ w.cell? ⟨b,k,none⟩ = some (slv s) := by
 obtain ⟨b,o,e',hlt,hc⟩ := (Rd.of_own h).2 (by omega)
 obtain ⟨A',cap',hv,_,_,hg⟩ := own_form h
 injection hv with hA _ _
 obtain ⟨g,hg1,_,_⟩ := hg (by omega)
 rw [hA,hg1] at e'
 injection e' with e'
 injection e' with e1 e2
 subst e1 e2
 refine ⟨g,by rw [hA,hg1],hlt,?_⟩
 have := hc k (slv s) (by simp [hx])
 rwa [Nat.zero_add] at this
theorem own_of_blk {w : World} {base g n size : Nat} {e : TypeId} {cs : Array Value} (h : Blk w g e cs) (hb : base <= g) (hs : cs.size = n * size) (hn : n <= maxLen) : w.ownsRow base e size (.slice (some ⟨g,0,none⟩) n n) n cs.toList :=
 ⟨by rw [Array.length_toList]; exact hs,.inr ⟨g,n,cs,rfl,hb,h,Nat.le_refl _,hn,hs,by rw [<- hs,<- Array.length_toList,List.take_length]⟩⟩
theorem netTrace_any (nb : Nat) (l : List Int) (n NP : Nat) (P : List Int) (q : Int) (x : List Int) (X : Option Addr) (N c : Nat) (w : World) (hN : NetP l n NP P q) (hA : NetAt w nb l n NP P q) (hxl : x.length = N) (hx : Rd w 1 X N (iv x)) (hxN : N = szN l 0) (hxi : AllIn x) :
  Calls Tryz.prog 203 #[.pointer (some ⟨nb,0,none⟩),.slice X N c] w (TraceRet l n P q x w) := by
 obtain ⟨base,bs,Ap,cp,Al,cl,ls,lb0,hA⟩ := hA
 obtain ⟨m,hm⟩ : ∃ m,n - 1 = m := ⟨_,rfl⟩
 have hn2 := hN.n2
 have hn16 := hN.n16
 have hNP := hN.np
 have hpl := hN.pl
 have hs0 := hN.sz (show 0 < n by omega)
 rw [<- hxN] at hs0
 have b0 : w.cell? ⟨nb,0,none⟩ = some (.pointer (some ⟨bs,0,none⟩)) := hA.blk.cell 0
 have lb := hA.blk.lt
 have HC1 := hid (shapeSizes_any base bs n l w hA.shp hN.len (by omega))
 have HC2 := hid (fun W (k : Below w.heap.size w W) => vecClone_any X N c x W hxl (hx.below k) (by omega))
 have HN := hid hN
 have HA := hid hA
 have HM := hid hm
 have HXL := hid hxl
 have HXI := hid hxi
 have HXN := hid hxN
 clear hN hA hx hm hxl hxi hxN
 go_enter Tryz.func203,Tryz.ntmps203
 go_wp2_with fail
 ((with_reducible refine HC1.out.mono ?_); rintro e w1 ⟨A1,c1,rfl,ho1,hb1⟩)
 obtain ⟨g1,o1,rfl,lg1,hc1⟩ := (Rd.of_own ho1).2 (by omega)
 have a0 : w1.cell? ⟨g1,o1,none⟩ = some (.int .i64 N) := by
  have := hc1 0 (.int .i64 N) (by rw [iv,List.getElem?_map,hs0.1]; rfl)
  rwa [Nat.add_zero] at this
 have HB1 := hid hb1
 have e3 : ((N : Int) != (N : Int)) = false := by simp
 have i0 : (0 : Int) < (n : Int) := by omega
 clear ho1 hb1 hc1 b0
 go_wp2_with fail
 ((with_reducible refine (HC2.out w1 HB1.out).mono ?_); rintro e w2 ⟨A2,c2,rfl,ho2,hb2⟩)
 obtain ⟨w3,hw3⟩ : ∃ w3,(w2.alloc (.cells #[.slice A2 N c2] 74)).alloc (.cells #[.slice (some ⟨w2.heap.size,0,none⟩) 1 1] 276) = w3 := ⟨_,rfl⟩
 obtain ⟨tb,htb⟩ : ∃ tb,w2.heap.size + 1 = tb := ⟨_,rfl⟩
 have hB2 : Below w.heap.size w w2 := HB1.out.trans (hb2.mono HB1.out.size)
 have hB3 : Below w.heap.size w w3 := by rw [<- hw3]; exact (hB2.alloc hB2.size _).alloc (by simp; have := hB2.size; omega) _
 have hR3 : Blk w3 w2.heap.size 74 #[.slice A2 N c2] := by rw [<- hw3]; exact (Blk.new _ _ _).alloc _
 have hT3 : Blk w3 tb 276 #[.slice (some ⟨w2.heap.size,0,none⟩) 1 1] := by rw [<- hw3]; exact Blk.new' _ _ (by simp [htb])
 have hX3 : w3.ownsRow w.heap.size 2 1 (.slice A2 N c2) N (iv x) := by rw [<- hw3]; exact own_base (((ho2.alloc _).alloc _)) HB1.out.size
 have HWE := hid hw3
 have HTE := hid htb
 have HB3 := hid hB3
 have HT3 := hid hT3
 have HR3 : Hid (w3.ownsRow w.heap.size 74 1 (.slice (some ⟨w2.heap.size,0,none⟩) 1 1) 1 ([((A2,N,c2) : Sl3')].map slv)) := hid (own_of_blk hR3 hB2.size rfl (by unfold maxLen; omega))
 have HX3 := hid hX3
 have HTB := hid (show w.heap.size <= tb by rw [<- htb]; have := hB2.size; omega)
 have hA3 := HA.out.below hB3
 have b3 : w3.cell? ⟨nb,3,none⟩ = some (.slice Al m cl) := by have := hA3.blk.cell 3; rw [HM.out] at this; exact this
 have lb3 := hA3.blk.lt
 have HQ3 : Hid (w2.cell? ⟨nb,3,none⟩ = some (.slice Al m cl)) := hid (by have := (HA.out.below hB2).blk.cell 3; rw [HM.out] at this; exact this)
 have b3' := HQ3.out
 have lb2 := (HA.out.below hB2).blk.lt
 clear hw3 htb hB2 hB3 hR3 hT3 hX3 hA3 ho2 hb2
 go_wp2_with fail
 rw [HWE.out,HTE.out]
 clear b3' lb2 HQ3 HWE b3 lb3 a0 lg1 i0
 go_loopw [37] (fun v wr => ∃ (k : Nat) (A : Option Addr) (c : Nat) (ss : List Sl3'),k <= m /\ v = .int .i64 k /\ Blk wr tb 276 #[.slice A (k + 1) c] /\ wr.ownsRow w.heap.size 74 1 (.slice A (k + 1) c) (k + 1) (ss.map slv) /\ ss.length = k + 1 /\ TrOk wr w.heap.size l (trN l n P q x) ss /\ Below w.heap.size w wr) (fun v _ => m - (intOf v).toNat)
 case atStart =>
  refine ⟨0,some ⟨w2.heap.size,0,none⟩,1,[(A2,N,c2)],by omega,rfl,HT3.out,HR3.out,rfl,fun j s hs => ?_,HB3.out⟩
  have hj : j < [((A2,N,c2) : Sl3')].length := (List.getElem?_eq_some_iff.1 hs).1
  obtain rfl : j = 0 := by simpa using hj
  simp at hs
  subst hs
  exact ⟨HXN.out,by rw [<- HXN.out]; exact HX3.out⟩
 case round =>
  obtain ⟨wo,rfl⟩ : ∃ wo,wo = wr := ⟨_,rfl⟩
  obtain ⟨k,A,c2,ss,hk,rfl,hT,hR,hsl,hOK,hB⟩ := hrel
  by_cases hlt : k < m
  ·have HT := hid hT
   have HR := hid hR
   have HSL := hid hsl
   have HOK := hid hOK
   have HB := hid hB
   have HLT := hid hlt
   have hmn := HM.out
   have hRR := HN.out.sz (show k + 1 < n by omega)
   have hCC := HN.out.sz (show k < n by omega)
   have hfit := HN.out.fit (show k < n - 1 by omega)
   obtain ⟨R,hRe⟩ : ∃ R,szN l (k + 1) = R := ⟨_,rfl⟩
   obtain ⟨C,hCe⟩ : ∃ C,szN l k = C := ⟨_,rfl⟩
   obtain ⟨M,hMe⟩ : ∃ M,R * C = M := ⟨_,rfl⟩
   rw [hRe] at hRR hfit
   rw [hCe] at hCC
   have hM1 : 1 <= M := by rw [<- hMe]; exact Nat.mul_pos hRR.2.1 hCC.2.1
   have hMNP : M <= NP := by
    have : obN l k = ofN l k + szN l (k + 1) * szN l k := rfl
    rw [hRe,hCe,hMe] at this
    omega
   obtain ⟨⟨AV,cV,Ab,cb⟩,hsk⟩ : ∃ s,ls[k]? = some s := ⟨_,List.getElem?_eq_getElem (by rw [HA.out.len]; omega)⟩
   obtain ⟨hwt,hAb,hcb⟩ := HA.out.wts k _ hsk
   dsimp only at hwt hAb hcb
   rw [hRe,hCe,hMe] at hwt
   obtain ⟨gw,rfl⟩ := own_some hwt (by omega)
   obtain ⟨gl,hgl,lgl,hcl⟩ := link_cells (own_below HA.out.lrow hB) hsk (by omega)
   subst hgl
   have hle : lkE l k (some ⟨gw,0,none⟩,cV,Ab,cb) = [.int .i64 R,.int .i64 C,.slice (some ⟨gw,0,none⟩) M cV,.slice Ab R cb] := by rw [<- hMe,<- hRe,<- hCe]; rfl
   rw [hle] at hcl
   have l0 : wo.cell? ⟨gl,k * 4,none⟩ = some (.int .i64 R) := hcl 0 (by omega)
   have l1 : wo.cell? ⟨gl,k * 4 + 1,none⟩ = some (.int .i64 C) := hcl 1 (by omega)
   have l2 : wo.cell? ⟨gl,k * 4 + 2,none⟩ = some (.slice (some ⟨gw,0,none⟩) M cV) := hcl 2 (by omega)
   have l3 : wo.cell? ⟨gl,k * 4 + 3,none⟩ = some (.slice Ab R cb) := hcl 3 (by omega)
   have j1 : (0 : Int) <= (k : Int) := by omega
   have j2 : (k : Int) < (m : Int) := by omega
   have HGW := hid hwt
   have HAB := hid hAb
   have HRR : Hid (szN l (k + 1) = R) := hid hRe
   have HCC : Hid (szN l k = C) := hid hCe
   have HMM := hid hMe
   have HBF := hid hfit
   clear hT hR hsl hOK hB hwt hAb hcb hcl hle hsk hRe hCe hMe hfit
   go_wp2_with fail
   obtain ⟨w5,hw5⟩ : ∃ w5,wo.alloc (.cells #[.int .i64 R,.int .i64 C,.slice (some ⟨gw,0,none⟩) M cV,.slice Ab R cb] 275) = w5 := ⟨_,rfl⟩
   obtain ⟨lb9,hlb9⟩ : ∃ lb9,wo.heap.size = lb9 := ⟨_,rfl⟩
   have hb5 : Below wo.heap.size wo w5 := by rw [<- hw5]; exact (Below.refl _ _).alloc (Nat.le_refl _) _
   have hk5 : Blk w5 lb9 275 #[.int .i64 R,.int .i64 C,.slice (some ⟨gw,0,none⟩) M cV,.slice Ab R cb] := by rw [<- hw5]; exact Blk.new' _ _ hlb9
   rw [hw5,hlb9]
   have HB5 := hid (HB.out.trans (hb5.mono HB.out.size))
   have HT5 := hid (HT.out.kept hb5)
   have HR5 := hid (own_below HR.out hb5)
   have HOK5 := hid (HOK.out.below hb5)
   have HK5 := hid hk5
   have HLB := hid (show w.heap.size <= lb9 by rw [<- hlb9]; exact HB.out.size)
   clear hw5 hlb9 hb5 hk5 HB HT HR HOK l0 l1 l2 l3 j1 j2 lgl
   have v0 := HK5.out.cell 0
   have v1 := HK5.out.cell 1
   have v2 := HK5.out.cell 2
   have v3 := HK5.out.cell 3
   have lk5 := HK5.out.lt
   have t0 := HT5.out.cell 0
   have lt5 := HT5.out.lt
   obtain ⟨⟨Ak,nk,ck⟩,hsk⟩ : ∃ s,ss[k]? = some s := ⟨_,List.getElem?_eq_getElem (by have := HSL.out; omega)⟩
   obtain ⟨hnk,hok⟩ := HOK5.out k _ hsk
   dsimp only at hnk
   rw [HCC.out] at hnk hok
   subst hnk
   obtain ⟨gr,hgr,lgr,hcr⟩ := vecs_cell HR5.out hsk (by omega)
   subst hgr
   have hcr' : w5.cell? ⟨gr,k,none⟩ = some (.slice Ak nk ck) := hcr
   have b2 : w5.cell? ⟨nb,2,none⟩ = some (.int .i64 q) := (HA.out.below HB5.out).blk.cell 2
   have lb5 := (HA.out.below HB5.out).blk.lt
   have j1 : (0 : Int) <= (k : Int) := by omega
   have j2 : (k : Int) < ((k + 1 : Nat) : Int) := by omega
   have j3 : (k : Int) < (k : Int) + 1 := by omega
   have HXK := hid hok
   have HMU := hid (fun W (kk : Kept w5 W) => mul_good R nk M cV gw 0 Ak ck (wtL l P k) (trN l n P q x k) q W ⟨by omega,by omega⟩ ⟨by omega,by omega⟩ HMM.out (by omega) (own_cap HGW.out) (by have := own_form HGW.out; obtain ⟨_,_,hv,_,h2,_⟩ := this; injection hv with _ _ h3; rw [h3]; unfold maxLen at h2; omega) (by have := HGW.out.1; rw [iv_length] at this; omega) (by have := HXK.out.1; rw [iv_length] at this; omega) (Rd.of_own (own_below (own_below HGW.out HB5.out) kk.2.2)) (Rd.of_own (own_below HXK.out kk.2.2)) (fun v hv => HN.out.pin v (List.mem_of_mem_drop (List.mem_of_mem_take hv))) (trN_in HXI.out k))
   have KS : Kept w5 w5.drew := Kept.start w5
   clear hok hsk hcr
   go_region_held3 (fun w' => Kept w5 w') (first | exact kk | exact KS) (first
    | (go_at_call 247; (with_reducible refine (HMU.out _ KS).mono ?_); rintro e w6 ⟨Az,cz,rfl,hoz,hb6⟩; have kk : Kept w5 w6 := KS.call hb6; have HKK := hid kk; have HOZ := hid hoz; clear hoz hb6))
   obtain ⟨gz,rfl⟩ := own_some HOZ.out (by omega)
   have hgz : w5.heap.size <= gz := (HOZ.out.lt gz rfl).1
   have HGZ := hid hgz
   have HB6 := hid (HB5.out.trans (kk.2.2.mono HB5.out.size))
   have u3 := (HK5.out.kept kk.2.2).cell 3
   have lu := (HK5.out.kept kk.2.2).lt
   have hbs : Rd w6 1 Ab R (iv (bsL l P k)) := by
    have h1 := pc_rd (e := obN l k) (k := R) (own_below HA.out.prow HB6.out) hpl (by have := HBF.out; omega)
    rw [HAB.out]
    unfold bsL
    rw [HRR.out]
    exact h1
   have hbl : (bsL l P k).length = R := by unfold bsL; rw [HRR.out,List.length_take,List.length_drop,hpl]; have := HBF.out; omega
   have hne : ∀ b o',Ab = some ⟨b,o',none⟩ -> 0 < R -> b ≠ gz := by
    intro b o' hb h0 e
    obtain ⟨gp,hgp,hp⟩ := pc_at (e := obN l k) (k := R) HA.out.prow (by omega) (by have := HBF.out; omega)
    rw [HAB.out,hp] at hb
    injection hb with hb
    injection hb with hb
    have h1 := (HA.out.prow.lt gp (by rw [hgp]; rfl)).2
    have h2 := HB5.out.size
    omega
   have HZL : Hid ((mulN (wtL l P k) (trN l n P q x k) q R).length = R) := hid (by rw [mulN,natL_length])
   have HAD := hid (add_any (some ⟨gz,0,none⟩) Ab gz 0 R cz cb R cz w5.heap.size (mulN (wtL l P k) (trN l n P q x k) q R) (bsL l P k) w6 (fun _ => rfl) (by omega) (by omega) HZL.out hbl HOZ.out hbs hne)
   clear v0 v1 v2 v3 lk5 t0 lt5 b2 lb5 hcr' lgr j1 j2 j3 KS hgz kk hbs hbl hne HMU
   go_wp2_with fail
   ((with_reducible refine HAD.out.mono ?_); rintro e w7 ⟨rfl,hz7,hg7⟩)
   have hb67 : Below w5.heap.size w6 w7 := below_gr (Below.refl _ _) HKK.out.2.1 hg7 HGZ.out
   have hb57 : Below w5.heap.size w5 w7 := HKK.out.2.2.trans hb67
   have hlz : layZ l P q k (trN l n P q x k) = addAt (mulN (wtL l P k) (trN l n P q x k) q R) 0 (bsL l P k) R := by unfold layZ; rw [HRR.out]
   rw [<- hlz] at hz7
   obtain ⟨Z,hZ⟩ : ∃ Z,layZ l P q k (trN l n P q x k) = Z := ⟨_,rfl⟩
   rw [hZ] at hz7
   have HZE := hid hZ
   have HZ7 := hid hz7
   have HB57 := hid hb57
   have HZLE : Hid (Z.length = R) := hid (by have := hz7.1; rw [iv_length] at this; omega)
   have b7 : w7.cell? ⟨nb,3,none⟩ = some (.slice (some ⟨gl,0,none⟩) m cl) := by have := (HA.out.below (HB5.out.trans (hb57.mono HB5.out.size))).blk.cell 3; rw [HM.out] at this; exact this
   have lb7 := (HA.out.below (HB5.out.trans (hb57.mono HB5.out.size))).blk.lt
   have hkw : IntKind.i64.wrap ((k : Int) + 1) = ((k + 1 : Nat) : Int) := by rw [show (k : Int) + 1 = ((k + 1 : Nat) : Int) by omega]; exact IntWalk.i64_in _ (by omega)
   clear hz7 hb67 hb57 hlz hZ u3 lu hg7 HAD
   by_cases hlast : k + 1 < m
   ·have e5 : decide ((k : Int) + 1 < (m : Int)) = true := decide_eq_true (by omega)
    go_wp2_with fail
    clear b7 lb7 e5
    go_loopw [70] (fun v wi => ∃ i : Nat,i <= R /\ v = .int .i64 i /\ wi.ownsRow w5.heap.size 2 1 (.slice (some ⟨gz,0,none⟩) R cz) R (iv (reluTo Z i)) /\ Below w5.heap.size w5 wi) (fun v _ => R - (intOf v).toNat)
    case atStart => exact ⟨0,by omega,rfl,by rw [reluTo_zero]; exact HZ7.out,HB57.out⟩
    case round =>
     obtain ⟨i,hi,rfl,hz,hb⟩ := hrel
     by_cases hir : i < R
     ·obtain ⟨v,hv⟩ : ∃ v,Z[i]? = some v := ⟨_,List.getElem?_eq_getElem (by rw [HZLE.out]; exact hir)⟩
      have hcv : wr.cell? ⟨gz,i,none⟩ = some (.int .i64 v) := (hz.cellAt i (by omega)).trans (by rw [iv,List.getElem?_map,reluTo_get hv]; rfl)
      obtain ⟨cur,hcur⟩ := own_cells hz
      have fz : wr.frozen? ⟨gz,i,none⟩ = false := by simp [World.frozen?,hcur]
      have lz : gz < wr.heap.size := (hz.lt gz rfl).2
      have h1 := hz.stored i (.int .i64 (gateV v v))
      rw [iv_set,reluTo_set hv] at h1
      have HZ8 := hid h1.1
      have HB8 := hid (below_gr hb hb.size h1.2 HGZ.out)
      have HRE := hid (relu_any v wr)
      have r1 : (0 : Int) <= (i : Int) := by omega
      have r2 : (i : Int) < (R : Int) := by omega
      have HIR := hid hir
      clear hz hb hv hcur h1
      go_wp2_with fail
      ((with_reducible refine HRE.out.mono ?_); rintro e w8 ⟨rfl,hw8⟩)
      subst hw8
      go_wp2_with fail
      go_roundw
      case rel => exact ⟨i + 1,HIR.out,by go_num,HZ8.out,HB8.out⟩
      case measure => simp [intOf]; have := HIR.out; omega
     ·obtain rfl : i = R := by omega
      have HZ9 : Hid (wr.ownsRow w.heap.size 2 1 (.slice (some ⟨gz,0,none⟩) i cz) i (iv (trN l n P q x (k + 1)))) := hid (by
       rw [trN,layA,if_pos (by rw [HM.out]; exact hlast),HZE.out,<- reluTo_all Z i (by rw [HZLE.out]; exact Nat.le_refl _)]
       exact own_base hz HB5.out.size)
      have HB9 := hid (HB5.out.trans (hb.mono HB5.out.size))
      have HT9 := hid (HT5.out.kept hb)
      have HR9 := hid (own_below HR5.out hb)
      have HOK9 := hid (HOK5.out.below hb)
      clear hz hb
      go_wp2_with fail
      ((with_reducible refine (trAdd_any tb w.heap.size (k + 1) c2 (some ⟨gr,0,none⟩) ss (some ⟨gz,0,none⟩,i,cz) wr HT9.out HR9.out (by omega) HB9.out.size).mono ?_); rintro e wb ⟨rfl,A',c',ht,hr,hst,hsz,hbb⟩)
      have HTb := hid ht
      have HRb := hid hr
      have HBb := hid (HB9.out.trans (hbb w.heap.size (Nat.le_refl _) HTB.out))
      have HOb := hid ((HOK9.out.snoc HSL.out (by rw [HRR.out]; exact HZ9.out)).stay hst hsz (by decide) (by decide))
      clear ht hr hst hsz hbb
      go_wp2_with fail
      go_roundw
      case rel =>
       refine ⟨k + 1,A',c',ss ++ [(some ⟨gz,0,none⟩,i,cz)],HLT.out,by go_num,HTb.out,HRb.out,by simp [HSL.out],?_,HBb.out⟩
       rw [<- HRR.out]
       exact HOb.out
      case measure => simp [intOf]; have := HLT.out; omega
   ·have e5 : decide ((k : Int) + 1 < (m : Int)) = false := decide_eq_false (by omega)
    have HZ9 : Hid (w7.ownsRow w.heap.size 2 1 (.slice (some ⟨gz,0,none⟩) R cz) R (iv (trN l n P q x (k + 1)))) := hid (by
     rw [trN,layA,if_neg (by rw [HM.out]; exact hlast),HZE.out]
     exact own_base HZ7.out HB5.out.size)
    have HB9 := hid (HB5.out.trans (HB57.out.mono HB5.out.size))
    have HT9 := hid (HT5.out.kept HB57.out)
    have HR9 := hid (own_below HR5.out HB57.out)
    have HOK9 := hid (HOK5.out.below HB57.out)
    go_wp2_with fail
    ((with_reducible refine (trAdd_any tb w.heap.size (k + 1) c2 (some ⟨gr,0,none⟩) ss (some ⟨gz,0,none⟩,R,cz) w7 HT9.out HR9.out (by omega) HB9.out.size).mono ?_); rintro e wb ⟨rfl,A',c',ht,hr,hst,hsz,hbb⟩)
    have HTb := hid ht
    have HRb := hid hr
    have HBb := hid (HB9.out.trans (hbb w.heap.size (Nat.le_refl _) HTB.out))
    have HOb := hid ((HOK9.out.snoc HSL.out (by rw [HRR.out]; exact HZ9.out)).stay hst hsz (by decide) (by decide))
    clear ht hr hst hsz hbb
    go_wp2_with fail
    go_roundw
    case rel =>
     refine ⟨k + 1,A',c',ss ++ [(some ⟨gz,0,none⟩,R,cz)],HLT.out,by go_num,HTb.out,HRb.out,by simp [HSL.out],?_,HBb.out⟩
     rw [<- HRR.out]
     exact HOb.out
    case measure => simp [intOf]; have := HLT.out; omega
  ·obtain rfl : k = m := by omega
   have HR := hid hR
   have HSL := hid hsl
   have HOK := hid hOK
   have HB := hid hB
   have t0 := hT.cell 0
   have lt0 := hT.lt
   clear hT hR hsl hOK hB
   go_wp2_with fail
   go_ret2
   have hmn : n = k + 1 := by have := HM.out; omega
   refine ⟨A,c2,ss,by rw [hmn]; rfl,by rw [hmn]; exact HR.out,by rw [hmn]; exact HSL.out,HOK.out,HB.out⟩
def subTo (z y : List Int) (i : Nat) : List Int := z.mapIdx fun j v => if j < i then wrap64 (v - y.getD j 0) else v
theorem subTo_zero (z y : List Int) : subTo z y 0 = z := by
 unfold subTo
 apply List.ext_getElem?
 intro i
 simp
theorem subTo_length (z y : List Int) (i : Nat) : (subTo z y i).length = z.length := by simp [subTo]
theorem subTo_get {z y : List Int} {i : Nat} {v : Int} (h : z[i]? = some v) : (subTo z y i)[i]? = some v := by simp [subTo,h]
theorem subTo_set {z y : List Int} {i : Nat} {v u : Int} (h : z[i]? = some v) (hy : y[i]? = some u) : (subTo z y i).set i (wrap64 (v - u)) = subTo z y (i + 1) := by
 obtain ⟨hl,hv⟩ := List.getElem?_eq_some_iff.1 h
 apply List.ext_getElem?
 intro j
 rw [List.getElem?_set,subTo_length]
 by_cases e : i = j
 ·subst e
  rw [if_pos rfl,if_pos hl]
  simp [subTo,h,hy]
 ·rw [if_neg e]
  by_cases hj : j < z.length
  ·simp only [subTo,List.getElem?_mapIdx]
   rw [List.getElem?_eq_getElem hj]
   simp only [Option.map_some]
   by_cases h1 : j < i
   ·rw [if_pos h1,if_pos (by omega)]
   ·rw [if_neg h1,if_neg (by omega)]
  ·rw [List.getElem?_eq_none (by rw [subTo_length]; omega),List.getElem?_eq_none (by rw [subTo_length]; omega)]
theorem subTo_in {z y : List Int} (i : Nat) (h : AllIn z) : AllIn (subTo z y i) := by
 intro v hv
 obtain ⟨j,hj⟩ := List.getElem?_of_mem hv
 simp only [subTo,List.getElem?_mapIdx] at hj
 obtain ⟨u,hu,rfl⟩ := Option.map_eq_some_iff.1 hj
 split
 ·exact wrap64_in1 _
 ·exact h u (List.mem_of_getElem? hu)
def errL (l : List Int) (n : Nat) (P : List Int) (q : Int) (x y : List Int) : List Int := subTo (trN l n P q x (n - 1)) y (szN l (n - 1))
def MissRet (l : List Int) (n : Nat) (P : List Int) (q : Int) (x y : List Int) (w : World) (e : Ending) (w' : World) : Prop :=
 ∃ A c ss D dc,e = .returned (.tuple #[.slice A n c,.slice D (szN l (n - 1)) dc,.bool true]) /\ w'.ownsRow w.heap.size 74 1 (.slice A n c) n (ss.map slv) /\ ss.length = n /\ TrOk w' w.heap.size l (trN l n P q x) ss /\
  w'.ownsRow w.heap.size 2 1 (.slice D (szN l (n - 1)) dc) (szN l (n - 1)) (iv (errL l n P q x y)) /\ Below w.heap.size w w' /\ (∀ (j : Nat) (s : Sl3'),ss[j]? = some s -> ∀ g,(slv s).ownBlock = some g -> (Value.slice D (szN l (n - 1)) dc).ownBlock ≠ some g)
theorem own_drewR {w : World} {base : Nat} {e : TypeId} {size n : Nat} {v : Value} {xs : List Value} (h : w.ownsRow base e size v n xs) : w.drew.ownsRow base e size v n xs := h
theorem netMiss_any (nb : Nat) (l : List Int) (n NP : Nat) (P : List Int) (q : Int) (x y : List Int) (X Y : Option Addr) (N c R d : Nat) (w : World) (hN : NetP l n NP P q) (hA : NetAt w nb l n NP P q) (hxl : x.length = N) (hx : Rd w 1 X N (iv x)) (hxN : N = szN l 0) (hxi : AllIn x)
  (hyl : y.length = R) (hy : Rd w 1 Y R (iv y)) (hR : szN l (n - 1) = R) :
  Calls Tryz.prog 146 #[.pointer (some ⟨nb,0,none⟩),.slice X N c,.slice Y R d] w (MissRet l n P q x y w) := by
 have HC1 := hid (netTrace_any nb l n NP P q x X N c w hN hA hxl hx hxN hxi)
 have hn2 := hN.n2
 have hsR := hN.sz (show n - 1 < n by omega)
 rw [hR] at hsR
 obtain ⟨m,hm⟩ : ∃ m,n - 1 = m := ⟨_,rfl⟩
 rw [hm] at hsR
 have HN := hid hN
 have HRE := hid hR
 have HM := hid hm
 have HY := hid hy
 have HYL := hid hyl
 have HXI := hid hxi
 clear hN hA hx hxl hxN hxi hy hyl hR hm
 go_enter Tryz.func146,Tryz.ntmps146
 go_wp2_with fail
 ((with_reducible refine HC1.out.mono ?_); rintro e w1 ⟨A,cA,ss,rfl,hr1,hsl,hok,hb1⟩)
 obtain ⟨⟨Am,nm,cm⟩,hsm⟩ : ∃ s,ss[m]? = some s := ⟨_,List.getElem?_eq_getElem (by rw [hsl]; have := HM.out; omega)⟩
 obtain ⟨hnm,hom⟩ := hok m _ hsm
 dsimp only at hnm
 rw [<- HM.out,HRE.out] at hnm
 subst hnm
 rw [<- HM.out,HRE.out] at hom
 obtain ⟨gr,hgr,lgr,hcr⟩ := vecs_cell hr1 hsm (by have := HM.out; omega)
 subst hgr
 have hcr' : w1.cell? ⟨gr,m,none⟩ = some (.slice Am nm cm) := hcr
 have hw1 : IntKind.i64.wrap ((n : Int) - 1) = (m : Int) := by have := HM.out; rw [show (n : Int) - 1 = (m : Int) by omega]; exact IntWalk.i64_in _ (by have := HN.out.n16; omega)
 have i1 : (0 : Int) <= (m : Int) := by omega
 have i2 : (m : Int) < (n : Int) := by have := HM.out; omega
 have e1 : ((nm : Int) != (nm : Int)) = false := by simp
 have HR1 := hid hr1
 have HSL := hid hsl
 have HOK := hid hok
 have HB1 := hid hb1
 have HC2 := hid (vecClone_any Am nm cm (trN l n P q x (n - 1)) w1 (by have := hom.1; rw [iv_length] at this; omega) (Rd.of_own hom) (by omega))
 clear hr1 hsl hok hb1 hsm hom hcr
 go_wp2_with fail
 ((with_reducible refine HC2.out.mono ?_); rintro e w2 ⟨D,dc,rfl,ho2,hb2⟩)
 obtain ⟨gd,rfl⟩ := own_some ho2 (by omega)
 have HD2 := hid ho2
 have HB2 := hid hb2
 have HGD := hid (show w1.heap.size <= gd from (ho2.lt gd rfl).1)
 have HZL : Hid ((trN l n P q x (n - 1)).length = nm) := hid (by have := ho2.1; rw [iv_length] at this; omega)
 clear ho2 hb2 hcr' lgr hw1 i1 i2 e1
 go_wp2_with fail
 go_loopw [42] (fun v wr => ∃ i : Nat,i <= nm /\ v = .int .i64 i /\ wr.ownsRow w1.heap.size 2 1 (.slice (some ⟨gd,0,none⟩) nm dc) nm (iv (subTo (trN l n P q x (n - 1)) y i)) /\ Below w1.heap.size w1 wr) (fun v _ => nm - (intOf v).toNat)
 case atStart => exact ⟨0,by omega,rfl,by rw [subTo_zero]; exact HD2.out,HB2.out⟩
 case round =>
  obtain ⟨i,hi,rfl,hz,hb⟩ := hrel
  by_cases hir : i < nm
  ·obtain ⟨v,hv⟩ : ∃ v,(trN l n P q x (n - 1))[i]? = some v := ⟨_,List.getElem?_eq_getElem (by rw [HZL.out]; exact hir)⟩
   have hcv : wr.cell? ⟨gd,i,none⟩ = some (.int .i64 v) := (hz.cellAt i (by omega)).trans (by rw [iv,List.getElem?_map,subTo_get hv]; rfl)
   obtain ⟨b,o,u,rfl,lb,hu,cu⟩ := iv_at HYL.out (HY.out.below (HB1.out.trans (hb.mono HB1.out.size))) hir
   obtain ⟨cur,hcur⟩ := own_cells hz
   have fz : wr.frozen? ⟨gd,i,none⟩ = false := by simp [World.frozen?,hcur]
   have lz : gd < wr.heap.size := (hz.lt gd rfl).2
   have h1 := hz.stored i (.int .i64 (wrap64 (v - u)))
   rw [iv_set,subTo_set hv hu] at h1
   have HZ8 := hid h1.1
   have HB8 := hid (below_gr hb hb.size h1.2 HGD.out)
   have HSB := hid (fun W => sub_any v u W)
   have r1 : (0 : Int) <= (i : Int) := by omega
   have r2 : (i : Int) < (nm : Int) := by omega
   have HIR := hid hir
   clear hz hb hv hcur h1
   go_wp2_with fail
   refine wp_region_early (Kept wr) [0,1,2,3,4,5,6,7,8,9] [10] [11,12] (by kernel_rfl) (by kernel_rfl) (Kept.start wr) ?_
   simp only [List.filterMap_cons,List.filterMap_nil,List.getElem?_cons_succ,List.getElem?_cons_zero]
   refine early_step (.slice (some ⟨gd,0,none⟩) nm dc) rfl (fun W hW => ?_) ?_
   ·obtain ⟨hc,-,-⟩ := hW
    go_simp
   go_simp
   refine early_step (.int .i64 i) rfl (fun W hW => ?_) ?_
   ·obtain ⟨hc,-,-⟩ := hW
    go_simp
   go_simp
   refine early_step (.slice (some ⟨gd,0,none⟩) nm dc) rfl (fun W hW => ?_) ?_
   ·obtain ⟨hc,-,-⟩ := hW
    go_simp
   go_simp
   refine early_step (.int .i64 i) rfl (fun W hW => ?_) ?_
   ·obtain ⟨hc,-,-⟩ := hW
    go_simp
   go_simp
   refine early_step (.pointer (some ⟨gd,i,none⟩)) rfl (fun W hW => ?_) ?_
   ·obtain ⟨hc,-,-⟩ := hW
    go_simp
   go_simp
   refine early_step (.int .i64 v) rfl (fun W hW => ?_) ?_
   ·obtain ⟨hc,-,-⟩ := hW
    go_simp
   go_simp
   refine early_step (.slice (some ⟨b,o,none⟩) nm d) rfl (fun W hW => ?_) ?_
   ·obtain ⟨hc,-,-⟩ := hW
    go_simp
   go_simp
   refine early_step (.int .i64 i) rfl (fun W hW => ?_) ?_
   ·obtain ⟨hc,-,-⟩ := hW
    go_simp
   go_simp
   refine early_step (.pointer (some ⟨b,o + i,none⟩)) rfl (fun W hW => ?_) ?_
   ·obtain ⟨hc,-,-⟩ := hW
    go_simp
   go_simp
   refine early_step (.int .i64 u) rfl (fun W hW => ?_) ?_
   ·obtain ⟨hc,-,-⟩ := hW
    go_simp
   go_simp
   change RestW _ _ _ _ _ (_ :: []) _ _
   unfold RestW
   go_wp2_with fail
   ((with_reducible refine (HSB.out _).mono ?_); rintro e w8 ⟨rfl,hw8⟩)
   subst hw8
   go_wp2_with fail
   refine ⟨Kept.start wr,?_⟩
   unfold RestW
   change wpList _ _ _ (_ :: _ :: []) _ _
   go_wp2_with fail
   refine NoPanic.normal ?_
   go_wp2_with fail
   go_roundw
   case rel => exact ⟨i + 1,HIR.out,by go_num,own_drewR HZ8.out,HB8.out.drew⟩
   case measure => simp [intOf]; have := HIR.out; omega
  ·obtain rfl : i = nm := by omega
   have HZ9 := hid hz
   have HB9 := hid hb
   clear hz hb
   go_wp2_with fail
   go_ret3
   refine ⟨_,cA,ss,some ⟨gd,0,none⟩,dc,by rw [HRE.out]; rfl,own_below HR1.out HB9.out,HSL.out,HOK.out.below HB9.out,?_,HB1.out.trans (HB9.out.mono HB1.out.size),?_⟩
   ·unfold errL
    rw [HRE.out]
    exact own_base HZ9.out HB1.out.size
   ·intro j s hs g hg e
    rw [HRE.out] at e
    have h1 := ((HOK.out j s hs).2.lt g hg).2
    have h2 := HGD.out
    have h3 : gd = g := by simpa [Value.ownBlock] using e
    omega
end
section
open Go.RowKit Go.Shelf
attribute [local go_sem] Oper.semAt_some
theorem made_iv (n : Nat) : (madeCells #[Value.int .i64 0] n).toList = iv (zeros n) := by
 have h := iv_zeros n
 rw [Nat.mul_one] at h
 exact h
theorem made_size (n : Nat) : (madeCells #[Value.int .i64 0] n).size = n := by
 have h := congrArg List.length (made_iv n)
 rw [Array.length_toList,iv_length,List.length_replicate] at h
 exact h
theorem own_made (w : World) (n g base : Nat) (e : TypeId) (hg : w.heap.size = g) (hb : base <= g) (hn : n <= 1048576) : (w.alloc (.cells (madeCells #[Value.int .i64 0] n) e)).ownsRow base e 1 (.slice (some ⟨g,0,none⟩) n n) n (iv (zeros n)) := by
 subst hg
 rw [<- made_iv]
 exact World.ownsRow_lit w _ n hb (by unfold maxLen; omega) (by rw [made_size,Nat.mul_one])
attribute [local go_sem] Oper.semAt_some
theorem wpIn_region_early {P : Program} {id : Nat} {Q : Exit -> Act -> World -> Prop} {a : Act} {w : World} {l : List Oper} {r n : Nat} (S : World -> Prop) (E M F : List Nat) (hm : P.follows .mixedOrders = true) (hB : earlyAllB l.toArray E M F = true) (hD : noDefer l.toArray = true) (hS : S w.drew)
  (h : EarlyW P l.toArray S (fun a' => RestW P l.toArray (NoPanic (NoOut Q)) S (fun a'' w'' => wpList P l.toArray (NoPanic (NoOut Q)) (F.filterMap (l[·]?)) a'' w'') (M.filterMap (l[·]?)) a' w.drew) (E.filterMap (l[·]?)) a) : (Code.region id l.toArray true).wpIn (Fence.wide.inRound r) n P Q a w := by
 simp only [earlyAllB,Bool.and_eq_true,decide_eq_true_eq] at hB
 obtain ⟨⟨⟨⟨⟨⟨⟨hsel,hE⟩,hM⟩,hF⟩,hlen⟩,hEs⟩,hMs⟩,hFs⟩ := hB
 have h2 := early_any (P := P) (md := .any) (Q := NoOut Q) (S := S) (F := F) (N := l.toArray.size) (fuel := M.length + F.length) hsel hS E (E.filterMap (l[·]?)) (Array.replicate l.toArray.size false) a (fun j oj _ hl => by rw [getD_replicate_false] at hl; cases hl) (map_filterMap E (fun i hi => by simpa using List.all_eq_true.1 hEs i hi)) hE
  (fun a' h' => rest_any M (M.filterMap (l[·]?)) _ a' _ (map_filterMap M (fun i hi => by simpa using List.all_eq_true.1 hMs i hi)) (fun a'' w'' h'' => free_any F (F.filterMap (l[·]?)) _ a'' w'' (fun _ h => h) (map_filterMap F (fun i hi => by simpa using List.all_eq_true.1 hFs i hi)) hF h'') true rfl (fun _ => midB_spec M _ hM) h') h
 rw [hlen] at h2
 have h1 := AnyT.any (S := S) (F := F) _ _ _ _ h2
 refine wpIn_mono (wpIn_region_any hm (wpAnyIn_of (noDefer_spec hD) (fun h => ?_) _ _ _ _ h1)) (fun e a w he => ?_)
 ·obtain ⟨a,w,h⟩ := h
  exact h
 ·cases e <;> first | exact he | exact (he : False).elim
def backP {R : Nat} (l y : List Int) (q : Int) (C : Nat) (pre : List (Fin R)) : List Int := pre.foldl (fun acc k => addAt acc 0 (scaleL (rowL l C k.val) (y.getD k.val 0) q) C) (zeros C)
theorem backP_snoc {R : Nat} (l y : List Int) (q : Int) (C : Nat) (pre : List (Fin R)) (k : Fin R) : backP l y q C (pre ++ [k]) = addAt (backP l y q C pre) 0 (scaleL (rowL l C k.val) (y.getD k.val 0) q) C := by
 unfold backP
 rw [List.foldl_append]
 rfl
theorem backP_length {R : Nat} (l y : List Int) (q : Int) (C : Nat) (pre : List (Fin R)) : (backP l y q C pre).length = C := by
 have h : ∀ (pre : List (Fin R)) (acc : List Int),acc.length = C -> (pre.foldl (fun acc k => addAt acc 0 (scaleL (rowL l C k.val) (y.getD k.val 0) q) C) acc).length = C := by
  intro pre
  induction pre with
  | nil => intro acc h; exact h
  | cons k pre ih =>
   intro acc h
   rw [List.foldl_cons]
   exact ih _ (by rw [addAt_length]; exact h)
 exact h pre (zeros C) (by simp)
theorem back_inv {R C m : Nat} {l y : List Int} {q : Int} (hm : R * C = m) (hl : l.length = m) (hy : y.length = R) {c : Nat} (hc : c < C) : ∀ k,k <= R -> ∃ s,(backP l y q C ((List.finRange R).take k))[c]? = some s /\ Hid (dotL q (rowL (turnN l R C) R c) y = dotF q ((rowL (turnN l R C) R c).drop k) (y.drop k) s) := by
 intro k
 induction k with
 | zero =>
  intro _
  refine ⟨0,?_,hid rfl⟩
  simp [backP,List.getElem?_replicate,hc]
 | succ k ih =>
  intro hk
  obtain ⟨s,h1,h2⟩ := ih (by omega)
  have hkR : k < R := by omega
  have hyk : y[k]? = some (y.getD k 0) := by
   rw [List.getD_eq_getElem?_getD,List.getElem?_eq_getElem (by omega)]
   rfl
  have hidx : c * R + k < C * R := row_lt c k C R hc hkR
  have hrow : (rowL (turnN l R C) R c)[k]? = some (l.getD (k * C + c) 0) := by
   rw [rowL_get hkR,turnN,natL_get _ _ _ hidx,turnF,row_mod _ _ _ hkR,row_div _ _ _ hkR]
  refine ⟨_,?_,dot_on h2 (hid hrow) (hid hyk)⟩
  rw [fin_take hkR,backP_snoc,addAt_get,h1]
  simp only [Option.map_some,Nat.zero_le,Nat.zero_add,hc,and_self,if_true,Nat.sub_zero]
  congr 3
  have hlk : k * C + c < m := by rw [<- hm]; exact row_lt k c R C hkR hc
  rw [List.getD_eq_getElem?_getD,scaleL,List.getElem?_map,rowL_get hc,List.getD_eq_getElem?_getD (l := l),List.getElem?_eq_getElem (by omega)]
  rfl
theorem back_done {R C m : Nat} {l y : List Int} {q : Int} (hm : R * C = m) (hl : l.length = m) (hy : y.length = R) : backP l y q C (List.finRange R) = mulN (turnN l R C) y q C := by
 apply List.ext_getElem?
 intro c
 by_cases hc : c < C
 ·obtain ⟨s,h1,h2⟩ := back_inv (q := q) hm hl hy hc R (Nat.le_refl _)
  rw [List.take_of_length_le (by rw [List.length_finRange]; exact Nat.le_refl _)] at h1
  have hT : (turnN l R C).length = C * R := natL_length _ _
  have hrl : (rowL (turnN l R C) R c).length = R := rowL_length rfl hT hc
  have e := dot_end h2 (hid hrl) (Nat.le_refl _)
  rw [h1,mulN,natL_get _ _ _ hc,hy,e]
 ·rw [List.getElem?_eq_none (by rw [backP_length]; omega),List.getElem?_eq_none (by rw [mulN,natL_length]; omega)]
end
end Go.Proofs.YtkmaeipoaoikpaaGreat
