/- Ser1, Ghost, Two, SgdStart, PlanMeth2. -/
import Derived.Test.YtkmaeipoaoikpaaGreatEB31
namespace Go.Proofs.YtkmaeipoaoikpaaGreat
set_option linter.all false
set_option maxRecDepth 100000
set_option maxHeartbeats 4000000
open Lib (hid)
section
open Go.RowKit
structure SA where
 base : Nat
 bs : Nat
 smb : Nat
 S : Option Addr
 cS : Nat
 es : List StS
 gp : Nat
 cP : Nat
 gm : Nat
 cM : Nat
abbrev serC (I : InC) (a : SA) : Array Value := #[.pointer (some ⟨a.bs,0,none⟩),.slice a.S I.m a.cS,.pointer (some ⟨a.smb,0,none⟩),.int .i64 I.c.ra,.int .i64 I.c.mo,.int .i64 I.c.sh,.slice (some ⟨a.gp,0,none⟩) I.P a.cP,.slice (some ⟨a.gm,0,none⟩) I.P a.cM,.int .i64 0]
structure SerIn (w : World) (rb : Nat) (I : InC) (a : SA) : Prop where
 blk : Blk w rb 108 (serC I a)
 shp : ShapeAt w a.base a.bs I.l I.n
 esl : a.es.length = I.m
 exs : Rd w 2 a.S I.m (stv I.N I.M a.es)
 exr : RdS w I.N I.M a.es I.f
 prow : Rd w 1 (some ⟨a.gp,0,none⟩) I.P (iv I.P0)
 mrow : Rd w 1 (some ⟨a.gm,0,none⟩) I.P (iv (zeros I.P))
theorem SerIn.below {w w' : World} {rb : Nat} {I : InC} {a : SA} (h : SerIn w rb I a) (hb : Below w.heap.size w w') : SerIn w' rb I a := ⟨h.blk.kept hb,h.shp.below hb,h.esl,h.exs.below hb,h.exr.below hb,h.prow.below hb,h.mrow.below hb⟩
theorem serState_any (rb : Nat) (I : InC) (a : SA) (w : World) (hO : I.Ok) (hpl : I.P0.length = I.P) (h : SerIn w rb I a) :
  Calls Tryz.prog 82 #[.pointer (some ⟨rb,0,none⟩)] w fun e w' => (∃ A c B d,e = .returned (.agg #[.slice A I.P c,.slice B I.P d])) /\ Below w.heap.size w w' := by
 have hP := hO.P60
 have HC := hid (fun W (b : SerIn W rb I a) => sgdClone_any (some ⟨a.gp,0,none⟩) (some ⟨a.gm,0,none⟩) I.P I.P a.cP a.cM I.P0 (zeros I.P) W hpl (by simp) b.prow b.mrow (by omega) (by omega))
 have HG : Hid (∀ W,w.alloc (.cells #[.slice none 0 0,.slice none 0 0] 92) = W -> Below w.heap.size w W /\ Blk W w.heap.size 92 #[.slice none 0 0,.slice none 0 0]) := hid (by
  rintro W rfl
  exact ⟨(Below.refl _ _).alloc (Nat.le_refl _) _,Blk.new _ _ _⟩)
 have HH := hid h
 have s6 : w.cell? ⟨rb,6,none⟩ = some (.slice (some ⟨a.gp,0,none⟩) I.P a.cP) := h.blk.cell 6
 have s7 : w.cell? ⟨rb,7,none⟩ = some (.slice (some ⟨a.gm,0,none⟩) I.P a.cM) := h.blk.cell 7
 have sl := h.blk.lt
 clear h hO hpl
 go_enter Tryz.func82,Tryz.ntmps82
 go_wp2_with fail
 obtain ⟨w0,hw0⟩ : ∃ w0,w.alloc (.cells #[.slice none 0 0,.slice none 0 0] 92) = w0 := ⟨_,rfl⟩
 obtain ⟨hB,hI⟩ := HG.out _ hw0
 rw [hw0]
 have HB := hid hB
 have HI := hid hI
 clear hw0 hB hI HG
 ((with_reducible refine (HC.out _ (HH.out.below HB.out)).mono ?_); rintro e w1 ⟨A8,c8,B8,d8,rfl,-,-,-,hb1⟩)
 have HB1 := hid (HB.out.trans (hb1.mono HB.out.size))
 have m0 := HI.out.kept hb1
 have x0 : w1.cell? ⟨w.heap.size,0,none⟩ = some (.slice none 0 0) := m0.cell 0
 have x1 : w1.cell? ⟨w.heap.size,1,none⟩ = some (.slice none 0 0) := m0.cell 1
 have f0 := m0.frozen 0
 have f1 := m0.frozen 1
 have lx := m0.lt
 clear m0 hb1
 go_wp2_with fail
 refine bodyPost_ret (v := .agg #[.slice A8 I.P c8,.slice B8 I.P d8]) (by simp [results,Tryz.results82,go_sem,x0,x1,lx]) rfl ⟨⟨_,_,_,_,rfl⟩,?_⟩
 exact (HB1.out.setCell (p := ⟨w.heap.size,0,none⟩) (Nat.le_refl _) _).setCell (p := ⟨w.heap.size,1,none⟩) (Nat.le_refl _) _
theorem serAdd_any (g gs cS nb : Nat) (K : MC) (Ps G : List Int) (k : Nat) (A1 A2 : Option Addr) (c1 c2 : Nat) (w : World) (hK : K.Ok) (hpl : Ps.length = K.NP) (hpi : AllIn Ps) (hg : Blk w g 74 #[.slice (some ⟨gs,0,none⟩) K.NP cS]) (hz : w.ownsRow 0 2 1 (.slice (some ⟨gs,0,none⟩) K.NP cS) K.NP (iv G)) (hG : G.length = K.NP)
  (hn : NetAt w nb K.l K.n K.NP Ps K.c.sh) (hk : k < K.m) (hx : Rd w 1 A1 K.N (iv (K.f (k + 1)).1)) (hy : Rd w 1 A2 K.M (iv (K.f (k + 1)).2)) :
  Calls Tryz.prog 84 #[.pointer (some ⟨nb,0,none⟩),.agg #[.slice A1 K.N c1,.slice A2 K.M c2],.pointer (some ⟨g,0,none⟩)] w fun e w' => e = .returned (.tuple #[]) /\ w'.ownsRow 0 2 1 (.slice (some ⟨gs,0,none⟩) K.NP cS) K.NP (iv (addAt G 0 (exG K Ps k) K.NP)) /\ But (fun b => b = gs) w w' := by
 obtain ⟨fx,fy⟩ := hK.fl k hk
 have fi := hK.fi k hk
 have hN := hK.net hpl hpi
 have HGR := hid (fun W (b : Below w.heap.size w W) => netGrad_any nb K.l K.n K.NP Ps K.c.sh (K.f (k + 1)).1 (K.f (k + 1)).2 A1 A2 K.N c1 K.M c2 W hN (hn.below b) fx (hx.below b) hK.hN fi fy (hy.below b) hK.hM.symm)
 have hel : (exG K Ps k).length = K.NP := gradN_length hN (by rw [Int.toNat_natCast]; exact fx.trans hK.hN)
 have heq : gradN K.l K.n Ps K.c.sh (K.f (k + 1)).1 (K.f (k + 1)).2 = exG K Ps k := by rw [exG,Int.toNat_natCast]
 have HEQ := hid heq
 have HEL := hid hel
 have HGG := hid hg
 have HZ := hid hz
 have HGL := hid hG
 have HNP : Hid (K.NP <= 1000) := hid hK.np
 have HG0 : Hid (∀ W,w.alloc (.cells #[.slice A1 K.N c1,.slice A2 K.M c2] 162) = W -> Below w.heap.size w W) := hid (by
  rintro W rfl
  exact (Below.refl _ _).alloc (Nat.le_refl _) _)
 clear hK hpl hpi hg hz hG hn hk hx hy fx fy fi hN hel heq
 go_enter Tryz.func84,Tryz.ntmps84
 go_wp2_with fail
 obtain ⟨w0,hw0⟩ : ∃ w0,w.alloc (.cells #[.slice A1 K.N c1,.slice A2 K.M c2] 162) = w0 := ⟨_,rfl⟩
 have HB := hid (HG0.out _ hw0)
 rw [hw0]
 clear hw0 HG0
 ((with_reducible refine (HGR.out _ HB.out).mono ?_); rintro e w1 ⟨B6,c6,rfl,hr6,hb6⟩)
 have HB1 := hid (HB.out.trans (hb6.mono HB.out.size))
 have hg1 := HGG.out.kept HB1.out
 have g0 : w1.cell? ⟨g,0,none⟩ = some (.slice (some ⟨gs,0,none⟩) K.NP cS) := hg1.cell 0
 have gl := hg1.lt
 have hz1 := own_below HZ.out HB1.out
 have HAD := hid (add_any (some ⟨gs,0,none⟩) B6 gs 0 K.NP cS c6 K.NP cS 0 G (exG K Ps k) w1 (fun _ => rfl) (by omega) (by have := HNP.out; omega) HGL.out HEL.out hz1 (by rw [<- HEQ.out]; exact Rd.of_own hr6) (fun b o' e h0 e2 => by
  have h1 := (hr6.lt b (by rw [e]; rfl)).1
  have h2 := (HZ.out.lt gs rfl).2
  have h3 := HB.out.size
  omega))
 clear hg1 hz1 hr6 hb6
 go_wp2_with fail
 ((with_reducible refine HAD.out.mono ?_); rintro e w7 ⟨rfl,hz7,hg7⟩)
 have HZ7 := hid hz7
 have HB7 : Hid (But (fun b => b = gs) w w7) := hid ((But.of_below _ HB1.out).trans (But.of_gr hg7 rfl))
 clear hz7 hg7 g0 gl
 go_wp2_with fail
 go_end0
 exact ⟨rfl,HZ7.out,HB7.out⟩
theorem serEach_any (w0 : World) (rb g gs cS : Nat) (I : InC) (a : SA) (G mic : List Int) (X : Option Addr) (nI cX : Nat) (w : World) (hO : I.Ok) (hpl : I.P0.length = I.P) (h0 : SerIn w0 rb I a) (hb0 : Below w0.heap.size w0 w) (hgs0 : w0.heap.size <= gs) (hne : g ≠ gs)
  (hg : Blk w g 74 #[.slice (some ⟨gs,0,none⟩) I.P cS]) (hz : w.ownsRow 0 2 1 (.slice (some ⟨gs,0,none⟩) I.P cS) I.P (iv G)) (hGl : G.length = I.P) (hml : mic.length = nI) (hn : nI <= 1000) (hx : Rd w 1 X nI (iv mic)) (hin : ∀ x ∈ mic,0 <= x /\ x < (I.m : Int)) :
  Calls Tryz.prog 83 #[.pointer (some ⟨rb,0,none⟩),.slice X nI cX,.func (.func 84) #[] #[.pointer (some ⟨g,0,none⟩)]] w fun e w' => e = .returned (.bool true) /\ w'.ownsRow 0 2 1 (.slice (some ⟨gs,0,none⟩) I.P cS) I.P (iv (accG (I.mc 0) I.P0 G mic)) /\ But (fun b => b = gs) w w' := by
 have hK := hO.mc (x := 0) (by have := hO.nums.wk; omega)
 have hN := hK.net hpl hO.pi
 have hs1000 : I.N <= 1000 /\ I.M <= 1000 := by
  rw [hO.hN,hO.hM]
  exact ⟨(hN.sz (show 0 < I.n by have := hK.n2; exact Nat.lt_of_lt_of_le (by omega) this)).2.2,(hN.sz (show I.n - 1 < I.n by have : 2 <= I.n := hK.n2; omega)).2.2⟩
 have HS := hid (fun W (b : Below w0.heap.size w0 W) => h0.below b)
 have HPK := hid (fun W (s : SerIn W rb I a) (r : Rd W 1 X nI (iv mic)) => dataPick_any a.S X I.m a.cS I.N I.M nI cX mic a.es I.f W hml (by omega) r hin s.esl (by have := hO.m60; omega) s.exs s.exr (by omega) (by omega) hO.fl)
 have HNW := hid (fun W (s : SerIn W rb I a) => netNew_any a.base a.bs I.l I.n I.P I.P0 I.c.sh (some ⟨a.gp,0,none⟩) a.cP W hN s.shp s.prow)
 have HO := hid hO
 have HK := hid hK
 have HPL := hid hpl
 have HB0 := hid hb0
 have HG := hid hg
 have HZ := hid hz
 have HGL := hid hGl
 have HML := hid hml
 have HX := hid hx
 have HIN := hid hin
 have HGS : Hid (gs < w.heap.size) := hid (hz.lt gs rfl).2
 have HGS0 := hid hgs0
 have hSw := h0.below hb0
 have HSW := hid hSw
 have r1 : w.cell? ⟨rb,1,none⟩ = some (.slice a.S I.m a.cS) := hSw.blk.cell 1
 have rl := hSw.blk.lt
 clear hO hpl h0 hb0 hg hz hGl hml hx hin hK hN hs1000 hgs0 hSw
 go_enter Tryz.func83,Tryz.ntmps83
 go_wp2_with fail
 ((with_reducible refine (HPK.out w HSW.out HX.out).mono ?_); rintro e w1 ⟨B1,c1,l1,hl1,rfl,hr1,hs1,hb1⟩)
 have HB1 := hid hb1
 have HL1 := hid hl1
 have HR1 := hid hr1
 have HS1 := hid hs1
 have hS1 := HSW.out.below hb1
 have HSW1 := hid hS1
 have q0 : w1.cell? ⟨rb,0,none⟩ = some (.pointer (some ⟨a.bs,0,none⟩)) := hS1.blk.cell 0
 have q5 : w1.cell? ⟨rb,5,none⟩ = some (.int .i64 I.c.sh) := hS1.blk.cell 5
 have q6 : w1.cell? ⟨rb,6,none⟩ = some (.slice (some ⟨a.gp,0,none⟩) I.P a.cP) := hS1.blk.cell 6
 have ql := hS1.blk.lt
 clear r1 rl hl1 hr1 hs1 hb1 hS1
 have KS : Kept w1 w1.drew := Kept.start w1
 have HNW2 := hid (fun W (kk : Kept w1 W) => HNW.out W (HSW1.out.below kk.2.2))
 go_wp2_with fail
 go_region_held3 (fun w' => Kept w1 w') (first | exact kk | exact KS) (first
  | (go_at_call 61; (with_reducible refine (HNW2.out _ KS).mono ?_); rintro e w2 ⟨nb,rfl,hnt,hb2⟩; have kk : Kept w1 w2 := KS.call hb2; have HK2 := hid kk; have HNT := hid hnt; clear hnt hb2))
 have HB2 : Hid (Below w.heap.size w w2) := hid (HB1.out.trans (HK2.out.2.2.mono HB1.out.size))
 have HSZ1 : Hid (w.heap.size <= w1.heap.size) := hid HB1.out.size
 have HZ2 := hid (own_below HZ.out HB2.out)
 have HG2 := hid (HG.out.kept HB2.out)
 have HR2 := hid (own_below HR1.out HK2.out.2.2)
 clear kk KS q0 q5 q6 ql
 go_wp2_with fail
 go_loopw [47] (fun v wr => ∃ i : Nat,i <= nI /\ v = .int .i64 i /\ wr.ownsRow 0 2 1 (.slice (some ⟨gs,0,none⟩) I.P cS) I.P (iv (accG (I.mc 0) I.P0 G (mic.take i))) /\ But (fun b => b = gs) w2 wr) (fun v _ => nI - (intOf v).toNat)
 case atStart => exact ⟨0,by omega,rfl,HZ2.out,But.refl _ _⟩
 case round =>
  obtain ⟨i,hi,rfl,hz,hb⟩ := hrel
  by_cases hir : i < nI
  ·obtain ⟨⟨A1,d1,A2,d2⟩,hs4⟩ : ∃ s,l1[i]? = some s := ⟨_,List.getElem?_eq_getElem (by rw [HL1.out]; exact hir)⟩
   obtain ⟨xi,hxi⟩ : ∃ x,mic[i]? = some x := ⟨_,List.getElem?_eq_getElem (by rw [HML.out]; exact hir)⟩
   obtain ⟨p0,p1⟩ := HIN.out xi (List.mem_of_getElem? hxi)
   obtain ⟨k,rfl⟩ : ∃ k : Nat,xi = k := ⟨xi.toNat,by omega⟩
   have hgs := HGS.out
   have hRr := own_but HR2.out hb (fun g' hg' e => by have h1 := (HR2.out.lt g' hg').1; omega)
   obtain ⟨b5,o5,rfl,l5,q0,q1⟩ := stv_rd (Rd.of_own hRr) hs4 hir
   dsimp only at q0 q1
   obtain ⟨hx4,hy4⟩ := HS1.out i _ hs4
   have hpk : pickF I.f mic (i + 1) = I.f (k + 1) := by
    unfold pickF
    rw [Nat.add_sub_cancel,List.getD_eq_getElem?_getD,hxi]
    rfl
   rw [hpk] at hx4 hy4
   have hx5 := own_below hx4 HK2.out.2.2
   have hy5 := own_below hy4 HK2.out.2.2
   have hxr := own_but hx5 hb (fun g' hg' e => by have h1 := (hx5.lt g' hg').1; omega)
   have hyr := own_but hy5 hb (fun g' hg' e => by have h1 := (hy5.lt g' hg').1; omega)
   have hbw0 : Below w0.heap.size w0 wr := (HB0.out.trans (HB2.out.mono HB0.out.size)).trans (hb.below (Nat.le_trans HB0.out.size HB2.out.size) (fun i e => by have e2 : i = gs := e; have := HGS0.out; omega))
   have hSr := HS.out wr hbw0
   have hNr := HNT.out.but hb (fun i e => by have e2 : i = gs := e; have := HSZ1.out; show i < w1.heap.size; omega) hSr.shp
   have hGr := HG2.out.but hb hne
   have hGL : (accG (I.mc 0) I.P0 G (mic.take i)).length = I.P := by rw [accG_length]; exact HGL.out
   have HX5 := hid (Rd.of_own hxr)
   have HY5 := hid (Rd.of_own hyr)
   have HNR := hid hNr
   have HGR := hid hGr
   have HZR := hid hz
   have HBR := hid hb
   have HIR := hid hir
   have HXI := hid hxi
   have HGLR := hid hGL
   have hkm : k < I.m := by omega
   have r1 : (0 : Int) <= (i : Int) := by omega
   have r2 : (i : Int) < (nI : Int) := by omega
   clear hRr hs4 hxi hx4 hy4 hpk hx5 hy5 hxr hyr hbw0 hSr hNr hGr hGL hz hb hir p0 p1
   go_wp2_with fail
   obtain ⟨w5,hw5⟩ : ∃ w5,wr.alloc (.cells #[.slice A1 I.N d1,.slice A2 I.M d2] 162) = w5 := ⟨_,rfl⟩
   have hb5 : Below wr.heap.size wr w5 := by rw [<- hw5]; exact (Below.refl _ _).alloc (Nat.le_refl _) _
   rw [hw5]
   have HB5 := hid hb5
   clear hw5 hb5 q0 q1 l5
   have hA : Calls Tryz.prog 84 #[.pointer (some ⟨nb,0,none⟩),.agg #[.slice A1 I.N d1,.slice A2 I.M d2],.pointer (some ⟨g,0,none⟩)] w5 fun e w' => e = .returned (.tuple #[]) /\ w'.ownsRow 0 2 1 (.slice (some ⟨gs,0,none⟩) I.P cS) I.P (iv (addAt (accG (I.mc 0) I.P0 G (mic.take i)) 0 (exG (I.mc 0) I.P0 k) I.P)) /\ But (fun b => b = gs) w5 w' :=
    serAdd_any g gs cS nb (I.mc 0) I.P0 (accG (I.mc 0) I.P0 G (mic.take i)) k A1 A2 d1 d2 w5 HK.out HPL.out HO.out.pi (HGR.out.kept HB5.out) (own_below HZR.out HB5.out) HGLR.out (HNR.out.below HB5.out).net hkm (HX5.out.below HB5.out) (HY5.out.below HB5.out)
   ((with_reducible refine hA.mono ?_); rintro e w7 ⟨rfl,hz7,hb7⟩)
   clear hA
   have HZ7 := hid hz7
   have HB7 := hid ((HBR.out.call HB5.out).trans hb7)
   clear hz7 hb7
   go_wp2_with fail
   go_roundw
   case rel =>
    refine ⟨i + 1,HIR.out,by go_num,?_,HB7.out⟩
    have e : mic.take (i + 1) = mic.take i ++ [(k : Int)] := by rw [List.take_add_one,HXI.out]; rfl
    rw [e,accG_snoc]
    exact HZ7.out
   case measure => simp [intOf]; have := HIR.out; omega
  ·obtain rfl : i = nI := by omega
   rw [List.take_of_length_le (by rw [HML.out]; exact Nat.le_refl _)] at hz
   have HZR := hid hz
   have HBR := hid hb
   clear hz hb
   go_wp2_with fail
   go_ret
   exact ⟨rfl,HZR.out,(But.of_below _ HB2.out).trans HBR.out⟩
theorem own_raise {w : World} {B g n c : Nat} {e : TypeId} {size : Nat} {xs : List Value} (h : w.ownsRow 0 e size (.slice (some ⟨g,0,none⟩) n c) n xs) (hg : B <= g) : w.ownsRow B e size (.slice (some ⟨g,0,none⟩) n c) n xs := by
 rcases h with ⟨h0,h1⟩
 refine ⟨h0,?_⟩
 rcases h1 with ⟨h1,_⟩ | ⟨g',cap,cur,h1,_,h2⟩
 ·cases h1
 ·injection h1 with h1 _ h3
  injection h1 with h1
  injection h1 with h1 _ _
  subst h1
  exact .inr ⟨g,cap,cur,by rw [h3],hg,h2⟩
theorem serGrad_any (rb : Nat) (I : InC) (a : SA) (mic : List Int) (X : Option Addr) (nI cX : Nat) (w : World) (hO : I.Ok) (hpl : I.P0.length = I.P) (h : SerIn w rb I a) (hml : mic.length = nI) (hn : nI <= 1000) (hx : Rd w 1 X nI (iv mic)) (hin : ∀ x ∈ mic,0 <= x /\ x < (I.m : Int)) :
  Calls Tryz.prog 23 #[.pointer (some ⟨rb,0,none⟩),.slice X nI cX] w fun e w' => ∃ A c,e = .returned (.tuple #[.slice A I.P c,.bool true]) /\ w'.ownsRow w.heap.size 2 1 (.slice A I.P c) I.P (iv (accG (I.mc 0) I.P0 (zeros I.P) mic)) /\ Below w.heap.size w w' := by
 have hP := hO.P60
 have HST := hid (serState_any rb I a w hO hpl h)
 have HEA := hid (fun W g gs cS => fun (b : Below w.heap.size w W) (b0 : w.heap.size <= gs) (hne : g ≠ gs) (hg : Blk W g 74 #[.slice (some ⟨gs,0,none⟩) I.P cS]) (hz : W.ownsRow 0 2 1 (.slice (some ⟨gs,0,none⟩) I.P cS) I.P (iv (zeros I.P))) => serEach_any w rb g gs cS I a (zeros I.P) mic X nI cX W hO hpl h b b0 hne hg hz (by simp) hml hn (hx.below b) hin)
 have hmk := fun W => run_make_row' (P := Tryz.prog) 74 2 (.int .i64 0) 8 Tryz.underlying74 slVec.info rfl .i64 .i64 I.P (by omega) (by omega) W
 have hfd : ∀ (W : World) A c B d,(Instr.field 92 (.agg #[.slice A I.P c,.slice B I.P d]) 0).run Tryz.prog W = .ok (.slice A I.P c) W := fun _ _ _ _ _ => rfl
 clear hO hpl h hml hx hin
 go_enter Tryz.func23,Tryz.ntmps23
 go_wp2_with fail
 ((with_reducible refine HST.out.mono ?_); rintro e w1 ⟨⟨A8,c8,B8,d8,rfl⟩,hb1⟩)
 have hfd1 := hfd w1 A8 c8 B8 d8
 clear hfd
 go_wp2_with fail
 obtain ⟨w2,hw2⟩ : ∃ w2,(w1.alloc (.cells (madeCells #[Value.int .i64 0] I.P) 2)).alloc (.cells #[.slice (some ⟨w1.heap.size,0,none⟩) I.P I.P] 74) = w2 := ⟨_,rfl⟩
 have hb2 : Below w1.heap.size w1 w2 := by rw [<- hw2]; exact ((Below.refl _ _).alloc (Nat.le_refl _) _).alloc (by simp) _
 have hg2 : Blk w2 (w1.heap.size + 1) 74 #[.slice (some ⟨w1.heap.size,0,none⟩) I.P I.P] := by rw [<- hw2]; exact Blk.new' _ _ (by simp)
 have hz2 : w2.ownsRow 0 2 1 (.slice (some ⟨w1.heap.size,0,none⟩) I.P I.P) I.P (iv (zeros I.P)) := by rw [<- hw2]; exact (own_made w1 I.P w1.heap.size 0 _ rfl (by omega) (by omega)).alloc _
 rw [hw2]
 have HB2 := hid (hb1.trans (hb2.mono hb1.size))
 have HG2 := hid hg2
 have HSZ : Hid (w.heap.size <= w1.heap.size) := hid hb1.size
 have HE := hid (HEA.out w2 (w1.heap.size + 1) w1.heap.size I.P HB2.out hb1.size (by omega) hg2 hz2)
 clear hw2 hb2 hg2 hz2 hb1 hfd1 hmk
 ((with_reducible refine HE.out.mono ?_); rintro e w3 ⟨rfl,hz3,hb3⟩)
 have hg3 := HG2.out.but hb3 (by intro e; have e2 : w1.heap.size + 1 = w1.heap.size := e; omega)
 have HZ3 := hid hz3
 have HB3 := hid ((HB2.out.trans (hb3.below HB2.out.size (fun i e => by have e2 : i = w1.heap.size := e; have := HSZ.out; omega))))
 have g0 : w3.cell? ⟨w1.heap.size + 1,0,none⟩ = some (.slice (some ⟨w1.heap.size,0,none⟩) I.P I.P) := hg3.cell 0
 have gl := hg3.lt
 clear hg3 hz3 hb3
 go_wp2_with fail
 go_ret2
 exact ⟨_,_,rfl,own_raise HZ3.out HSZ.out,HB3.out⟩
theorem wpList_one {P : Program} {ops : Array Oper} {Q1 Q2 : Exit -> Act -> World -> Prop} {o : Oper} {a : Act} {w : World} (h : ∀ e a w,Q1 e a w -> Q2 e a w) (hw : wpList P ops Q1 [o] a w) : wpList P ops Q2 [o] a w := by
 unfold wpList at *
 split
 ·rename_i hwa
  rw [if_pos hwa] at hw
  rcases hw with hh | ⟨h1,a',w0,hq⟩
  ·exact .inl (Oper.wp_mono (fun a w hk => h .normal a w hk) (oper_monoQ (fun e a w _ hq => h e a w hq) hh))
  ·exact .inr ⟨h1,a',w0,h _ _ _ hq⟩
 ·rename_i hwa
  rw [if_neg hwa] at hw
  exact h .normal _ _ hw
def PostG (P : Program) (ops : Array Oper) (Q : Exit -> Act -> World -> Prop) (S : World -> Prop) (V : (Nat -> Prop) -> Nat -> Value -> World -> Prop) (F : Nat -> Prop) (j : Nat) (d : Option Tmp) (o : Oper) (a : Act) (w : World) : Prop :=
 wpList P ops (fun e a' w' => match e with | .normal => ∃ v,a' = a.put d v /\ S w' /\ Below w.heap.size w w' /\ ∃ F',(∀ i,i < w.heap.size -> (F' i ↔ F i)) /\ V F' j v w' | e => Q e a' w') [o] a w
structure GhostAt (P : Program) (l : List Oper) (S : World -> Prop) (V : (Nat -> Prop) -> Nat -> Value -> World -> Prop) (B : Nat) (F0 : Nat -> Prop) (M T : List Nat) (Q : Exit -> Act -> World -> Prop) (a0 : Act) : Prop where
 each : ∀ j ∈ M,∀ o,l[j]? = some o -> ∀ vs F w,S w -> (∀ k ∈ M,Region.waitsFor .any l.toArray j k = true -> V F k (vs k) w) -> PostG P l.toArray (NoPanic Q) S V F j (dstN l.toArray j) o (puts l.toArray a0 vs M) w
 last : ∀ vs F w,S w -> (∀ i,i < B -> (F i ↔ F0 i)) -> (∀ k ∈ M,V F k (vs k) w) -> wpList P l.toArray (NoPanic Q) (T.filterMap (l[·]?)) (puts l.toArray a0 vs M) w
theorem earlyW_mono {P : Program} {ops : Array Oper} {S : World -> Prop} {n n' : Act -> Prop} (h : ∀ a,n a -> n' a) : ∀ (l : List Oper) (a : Act),EarlyW P ops S n l a -> EarlyW P ops S n' l a
 | [],a,hn => h a hn
 | o :: r,a,⟨v,h1,h2⟩ => ⟨v,h1,earlyW_mono h r _ h2⟩
theorem wp_region_ghost {P : Program} {id : Nat} {Q : Exit -> Act -> World -> Prop} {a : Act} {w : World} {l : List Oper} (S : World -> Prop) (V : (Nat -> Prop) -> Nat -> Value -> World -> Prop) (B : Nat) (F0 : Nat -> Prop) (E M T : List Nat) (hm : P.follows .mixedOrders = true) (hB : postsAllB l.toArray E M T = true) (hS : S w.drew) (hSB : ∀ w,S w -> B <= w.heap.size)
  (hst : ∀ F F' j v w w',V F j v w -> Below w.heap.size w w' -> (∀ i,i < w.heap.size -> (F' i ↔ F i)) -> V F' j v w')
  (h : EarlyW P l.toArray S (GhostAt P l S V B F0 M T Q) (E.filterMap (l[·]?)) a) : (Code.region id l.toArray true).wp P Q a w := by
 refine wp_region_inv S (fun L vs w => S w /\ ∃ F,(∀ i,i < B -> (F i ↔ F0 i)) /\ ∀ k ∈ M,L k = true -> V F k (vs k) w) E M T hm hB hS (fun L vs w h => h.1) (fun L vs w hS hL => ⟨hS,F0,fun _ _ => Iff.rfl,fun k hk e => by rw [hL k hk] at e; cases e⟩) ?_
 refine earlyW_mono (fun a0 hg => ?_) _ _ h
 refine ⟨fun j hj o ho L vs w hI hLj hw => ?_,fun L vs w hI hL => ?_⟩
 ·obtain ⟨hSw,F,hF,hV⟩ := hI
  have h1 := hg.each j hj o ho vs F w hSw (fun k hk hwait => hV k hk (hw k hwait))
  unfold PostG at h1
  unfold InvW
  refine wpList_one (fun e a' w' h2 => ?_) h1
  cases e with
  | normal =>
   obtain ⟨v,hv,hS',hb,F',hF',hV'⟩ := h2
   refine ⟨v,hv,hS',F',fun i hi => (hF' i (Nat.lt_of_lt_of_le hi (hSB w hSw))).trans (hF i hi),fun k hk hLk => ?_⟩
   by_cases hkj : k = j
   ·subst hkj
    unfold updV
    rw [if_pos rfl]
    exact hV'
   ·simp only [if_neg hkj] at hLk
    unfold updV
    rw [if_neg hkj]
    exact hst F F' k (vs k) w w' (hV k hk hLk) hb hF'
  | _ => exact h2
 ·obtain ⟨hSw,F,hF,hV⟩ := hI
  exact hg.last vs F w hSw hF (fun k hk => hV k hk (hL k hk))
def twoB (ops : Array Oper) (E : List Nat) (x y : Nat) (T : List Nat) : Bool :=
 Region.noSelect ops && pureB .any ops E (Array.replicate ops.size false) && decide (Region.ready .any ops (listAll (Array.replicate ops.size false) E) = [x,y]) &&
  seqT .any ops (y :: T) ((listAll (Array.replicate ops.size false) E).setIfInBounds x true) && seqT .any ops (x :: T) ((listAll (Array.replicate ops.size false) E).setIfInBounds y true) && decide (E.length + (T.length + 2) = ops.size) && (x :: y :: T).all (fun t => decide (t < ops.size))
theorem wp_region_two {P : Program} {id : Nat} {Q : Exit -> Act -> World -> Prop} {a : Act} {w : World} {l : List Oper} (E : List Nat) (x y : Nat) (T : List Nat) (hm : P.follows .mixedOrders = true) (hB : twoB l.toArray E x y T = true)
  (h : PureW P l.toArray (fun a' => wpList P l.toArray (NoPanic Q) ((x :: y :: T).filterMap (l[·]?)) a' w.drew /\ wpList P l.toArray (NoPanic Q) ((y :: x :: T).filterMap (l[·]?)) a' w.drew) E a) : (Code.region id l.toArray true).wp P Q a w := by
 simp only [twoB,Bool.and_eq_true,decide_eq_true_eq] at hB
 obtain ⟨⟨⟨⟨⟨⟨hsel,hpu⟩,hready⟩,hsx⟩,hsy⟩,hlen⟩,hin⟩ := hB
 have hin' : ∀ t ∈ x :: y :: T,t < l.length := fun t ht => by simpa using List.all_eq_true.1 hin t ht
 have hx : x < l.length := hin' x (by simp)
 have hy : y < l.length := hin' y (by simp)
 have hT : ∀ t ∈ T,t < l.length := fun t ht => hin' t (by simp [ht])
 refine wp_region_noPanic (wp_region_any hm ?_)
 have h2 := pure_any (P := P) (md := .any) (Q := Q) (w := w.drew) hsel (fuel := T.length + 2) E _ a hpu (fun a' h' => ?_) h
 ·rw [hlen] at h2
  exact h2
 ·obtain ⟨hxy,hyx⟩ := h'
  refine ⟨fun h0 => (by rw [hready] at h0; cases h0),fun i hi => ?_⟩
  rw [hready] at hi
  have key : ∀ u v,u < l.length -> v < l.length -> seqT .any l.toArray (v :: T) ((listAll (Array.replicate l.toArray.size false) E).setIfInBounds u true) = true -> wpList P l.toArray (NoPanic Q) ((u :: v :: T).filterMap (l[·]?)) a' w.drew ->
    wpOp P l.toArray (NoPanic Q) u (wpAny P .any l.toArray (NoPanic Q) (T.length + 1) ((listAll (Array.replicate l.toArray.size false) E).setIfInBounds u true)) a' w.drew := by
   intro u v hu hv hs hl
   rw [List.filterMap_cons_some (List.getElem?_eq_getElem hu)] at hl
   have hw : wpOp P l.toArray (NoPanic Q) u (wpList P l.toArray (NoPanic Q) ((v :: T).filterMap (l[·]?))) a' w.drew := by
    unfold wpOp
    have : l.toArray[u]? = some l[u] := by simp [hu]
    simp only [this]
    exact hl
   refine wpOp_mono (fun a'' w'' h'' => ?_) hw
   exact seqT_any (P := P) (md := .any) (Q' := NoPanic Q) (v :: T) _ _ a'' w'' (map_filterMap (v :: T) (fun t ht => by
    rcases List.mem_cons.1 ht with rfl | ht
    ·exact hv
    ·exact hT t ht)) hs h''
  rcases List.mem_cons.1 hi with rfl | hi
  ·exact key _ _ hx hy hsx hxy
  ·have hiy : i = y := by simpa using hi
   subst hiy
   exact key _ _ hy hx hsy hyx
def StRet2 (w : World) (n : Nat) (Ps Ms : List Int) (en : Ending) (w' : World) : Prop :=
 ∃ AP cP AM cM,en = .returned (.agg #[.slice AP n cP,.slice AM n cM]) /\ w'.ownsRow w.heap.size 2 1 (.slice AP n cP) n (iv Ps) /\ w'.ownsRow w.heap.size 2 1 (.slice AM n cM) n (iv Ms) /\
  (∀ g h,(Value.slice AP n cP).ownBlock = some g -> (Value.slice AM n cM).ownBlock = some h -> g ≠ h) /\ Below w.heap.size w w'
theorem sgdStart_any (A : Option Addr) (n c : Nat) (l : List Int) (w : World) (hl : l.length = n) (h : Rd w 1 A n (iv l)) (hn : n <= 1000000) :
  Calls Tryz.prog 41 #[.slice A n c] w (StRet2 w n l (zeros n)) := by
 have HC := hid (fun W (hb : Below w.heap.size w W) => vecClone_any A n c l W hl (h.below hb) (by omega))
 obtain ⟨i0,hi0,q0,q1,q2⟩ := info_parts slI64.info
 clear hl h
 go_enter Tryz.func41,Tryz.ntmps41
 go_wp2_with fail
 obtain ⟨w0,hw0⟩ : ∃ w0,w.alloc (.cells #[.slice none 0 0,.slice none 0 0] 92) = w0 := ⟨_,rfl⟩
 have k0 : Below w.heap.size w w0 := by rw [<- hw0]; exact (Below.refl _ _).alloc (Nat.le_refl _) _
 have S0 : Blk w0 w.heap.size 92 #[.slice none 0 0,.slice none 0 0] := by rw [<- hw0]; exact Blk.new _ _ _
 rw [hw0]
 clear hw0
 have kd : Below w.heap.size w w0.drew := k0.drew
 have KD := hid kd
 have SD := hid S0.drew
 clear k0 S0 kd
 refine wp_region_two [0,2,3] 1 4 [5,6] (by kernel_rfl) (by kernel_rfl) ?_
 refine ⟨_,_,rfl,.inl ⟨rfl,fun w => rfl⟩,?_⟩
 refine ⟨_,_,rfl,.inl ⟨rfl,fun w => rfl⟩,?_⟩
 refine ⟨_,.int .i64 n,rfl,.inl ⟨rfl,fun w => by go_simp⟩,?_⟩
 simp only [PureW,List.filterMap_cons,List.filterMap_nil,List.getElem?_cons_succ,List.getElem?_cons_zero]
 go_simp
 refine ⟨?_,?_⟩
 ·change wpList _ _ _ (_ :: _ :: _ :: _ :: []) _ _
  go_wp2_with fail
  ((with_reducible refine (HC.out _ KD.out).mono ?_); rintro e w1 ⟨A1,c1,rfl,hown1,hb1⟩)
  have K1 := hid ((Kept.of KD.out).call hb1).2.2
  have S1 := hid (SD.out.kept hb1)
  have O1 := hid hown1
  clear hown1 hb1
  go_wp2_with (at_make; go_must (refine wpList_make_full w1 rfl _ _ _ rfl w1.heap.size 2 i0 (.int .i64 0) 1 slVec.slice hi0 q0 q1 .i64 .i64 _ _ n rfl rfl rfl rfl (by rw [q2]; omega) (by unfold maxLen; omega) (Nat.le_refl _) ?_); intro w2 hown2 hg2; (have K2 := hid (Below.grown (Below.refl w1.heap.size w1) hg2 (Nat.le_refl _) (by simp))); (have O2 := hid hown2); (have s0 : w2.cell? ⟨w.heap.size,0,none⟩ = some (.slice none 0 0) := (S1.out.kept K2.out).cell 0); (have s1 : w2.cell? ⟨w.heap.size,1,none⟩ = some (.slice none 0 0) := (S1.out.kept K2.out).cell 1); (have f0 := (S1.out.kept K2.out).frozen 0); (have f1 := (S1.out.kept K2.out).frozen 1); (have ls := (S1.out.kept K2.out).lt); clear hown2 hg2)
  refine NoPanic.normal ?_
  go_wp2_with fail
  have S2 := S1.out.kept K2.out
  have hst := store2' S2 (.slice A1 n c1) (.slice (some ⟨w1.heap.size,0,none⟩) n n)
  have hz := K1.out.size
  have o1 := own_below O1.out K2.out
  have o2 := O2.out
  rw [iv_zeros] at o2
  have kd := KD.out.size
  refine bodyPost_ret (v := .agg #[.slice A1 n c1,.slice (some ⟨w1.heap.size,0,none⟩) n n]) (by simp [results,Tryz.results41,go_sem,s0,s1,ls]) rfl ⟨_,_,_,_,rfl,own_base (o1.kept hst.1 (.inr (own_blk_ne o1 S2 (by decide)))) kd,own_base (o2.kept hst.1 (.inr (own_blk_ne o2 S2 (by decide)))) hz,fun g h hg hh => ?_,below_gr ((Kept.of K1.out).call K2.out).2.2 (Nat.le_trans hz K2.out.size) hst.1 (Nat.le_refl _)⟩
  have a1 := (O1.out.lt g hg).2
  have a2 := (O2.out.lt h hh).1
  omega
 ·change wpList _ _ _ (_ :: _ :: _ :: _ :: []) _ _
  go_wp2_with (at_make; go_must (refine wpList_make_full w0.drew rfl _ _ _ rfl w0.drew.heap.size 2 i0 (.int .i64 0) 1 slVec.slice hi0 q0 q1 .i64 .i64 _ _ n rfl rfl rfl rfl (by rw [q2]; omega) (by unfold maxLen; omega) (Nat.le_refl _) ?_); intro w2 hown2 hg2; (have K2 := hid (Below.grown (Below.refl w0.drew.heap.size w0.drew) hg2 (Nat.le_refl _) (by simp))); (have O2 := hid hown2); clear hown2 hg2)
  have KK2 := hid ((Kept.of KD.out).call K2.out).2.2
  ((with_reducible refine (HC.out _ KK2.out).mono ?_); rintro e w1 ⟨A1,c1,rfl,hown1,hb1⟩)
  have K1 := hid ((Kept.of KK2.out).call hb1).2.2
  have S1 := hid ((SD.out.kept K2.out).kept hb1)
  have O1 := hid hown1
  have O3 := hid (own_below O2.out hb1)
  have s0 : w1.cell? ⟨w.heap.size,0,none⟩ = some (.slice none 0 0) := S1.out.cell 0
  have s1 : w1.cell? ⟨w.heap.size,1,none⟩ = some (.slice none 0 0) := S1.out.cell 1
  have f0 := S1.out.frozen 0
  have f1 := S1.out.frozen 1
  have ls := S1.out.lt
  clear hown1 hb1
  go_wp2_with fail
  refine NoPanic.normal ?_
  go_wp2_with fail
  have hst := store2' S1.out (.slice A1 n c1) (.slice (some ⟨w0.heap.size,0,none⟩) n n)
  have hz := K1.out.size
  have o1 := O1.out
  have o2 := O3.out
  rw [iv_zeros] at o2
  have kd := KD.out.size
  have kd2 := KK2.out.size
  refine bodyPost_ret (v := .agg #[.slice A1 n c1,.slice (some ⟨w0.heap.size,0,none⟩) n n]) (by simp [results,Tryz.results41,go_sem,s0,s1,ls]) rfl ⟨_,_,_,_,rfl,own_base (o1.kept hst.1 (.inr (own_blk_ne o1 S1.out (by decide)))) kd2,own_base (o2.kept hst.1 (.inr (own_blk_ne o2 S1.out (by decide)))) kd,fun g h hg hh => ?_,below_gr K1.out hz hst.1 (Nat.le_refl _)⟩
  have a1 := (O1.out.lt g hg).1
  have a2 := (O2.out.lt h hh).2
  omega
theorem rv_ones (l : List (Int × Int)) : ∀ u ∈ rv l,u.oneCell' = true := fun u h => rv_one u l h
theorem cloneR_any (A : Option Addr) (n cap : Nat) (l : List (Int × Int)) (w : World) (hl : l.length = n) (h : Rd w 2 A n (rv l)) (hn : n <= 1000000) :
  Calls Tryz.prog 111 #[.slice A n cap] w (OwnRet w 218 2 n (rv l)) := by
 have HR := hid h
 have HL := hid hl
 have hq := fun (w : World) (a : Option Addr) (n c : Nat) => Lib.run_eql_slice_nil (P := Tryz.prog) w 113 218 a n c 0 0 Tryz.underlying113
 clear h hl
 cases A with
 | none =>
  have hn0 : n = 0 := by
   rcases Nat.eq_zero_or_pos n with h0 | h0
   ·exact h0
   ·obtain ⟨b,o,h,_⟩ := HR.out.2 h0; cases h
  subst hn0
  have hl0 : l = [] := List.eq_nil_of_length_eq_zero HL.out
  subst hl0
  go_enter Tryz.func111,Tryz.ntmps111
  go_wp2
  go_ret
  exact ⟨none,0,rfl,by simpa [rv] using World.ownsRow_nil _ _ _ _,Below.refl _ _⟩
 | some ad =>
  go_enter Tryz.func111,Tryz.ntmps111
  go_wp2_with (at_builtin; go_must (refine wpList_appendAll slPart rfl _ _ rfl w.heap.size _ 0 [] rfl (World.ownsRow_lit w #[] 0 (Nat.le_refl _) (by unfold maxLen; omega) rfl) (some ad) n cap (rv l) rfl (HR.out.alloc _) (rv_ones l) (by unfold maxLen; omega) (by omega) (by simp) ?_); intro A' cap' w1 hown1 hb1)
  go_ret
  exact ⟨A',cap',by simp,by simpa using hown1,((Below.refl _ _).alloc (Nat.le_refl _) _).trans hb1⟩
end
section
open Go.RowKit
variable (pc : PlC) (c : Cfg) (A : Option Addr) (n cap b : Nat) (x t i : Int) (w : World)
theorem planBuckets_any (hp : pc.Ok) (h : PlanAt w b pc c A n cap) :
  Calls Tryz.prog 44 #[.pointer (some ⟨b,0,none⟩)] w (OwnRet w 218 2 pc.nb (rv pc.bks)) := by
 obtain ⟨Ab,cb,Ag,cg,Al,cl,h1,h2,h3,h4,_⟩ := h
 have c12 : w.cell? ⟨b,12,none⟩ = some (.slice Ab pc.nb cb) := h1.cell 12
 have lb := h1.lt
 have HC := hid (cloneR_any Ab pc.nb cb pc.bks w pc.bks_length h2 (by have := PlC.nb_le hp; omega))
 clear h1 h2 h3 h4 hp
 go_enter Tryz.func44,Tryz.ntmps44
 go_wp2_with fail
 ((with_reducible refine HC.out.mono ?_); rintro e w1 ⟨A1,c1,rfl,hown,hb⟩)
 have HO := hid (And.intro hown hb)
 clear hown hb
 go_wp2_with fail
 go_ret
 exact ⟨A1,c1,rfl,HO.out.1,HO.out.2⟩
end
end Go.Proofs.YtkmaeipoaoikpaaGreat
