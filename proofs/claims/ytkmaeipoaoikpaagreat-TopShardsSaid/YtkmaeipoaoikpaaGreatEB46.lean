/- Shards2, Leave. -/
import Derived.Conc.LeavingOf
import Derived.Test.YtkmaeipoaoikpaaGreatEB45
namespace Go.Proofs.YtkmaeipoaoikpaaGreat
set_option linter.all false
set_option maxRecDepth 100000
set_option maxHeartbeats 8000000
open Lib (hid)
section
open Go.RowKit
theorem smpP_top {n b st : Nat} (hb1 : 1 <= b) (hbn : b <= n) (hn : n <= 60) (hst : st <= 60) : SmpP n b st (n / b) (cnt st (n / b)) := by
 have hq1 : 1 <= n / b := (Nat.one_le_div_iff (by omega)).2 hbn
 have hq60 : n / b <= n := Nat.div_le_self n b
 refine ⟨hq1,by omega,hb1,hbn,Nat.div_mul_le_self n b,by omega,by omega,?_,rfl,rfl⟩
 generalize n / b = q at hq1
 rw [cnt_pos (q * b) b (Nat.mul_pos hq1 hb1) hb1]
 obtain ⟨q',rfl⟩ : ∃ q',q = q' + 1 := ⟨q - 1,by omega⟩
 have h1 : (q' + 1) * b - 1 = q' * b + (b - 1) := by rw [Nat.succ_mul]; omega
 have h2 : (q' * b + (b - 1)) / b = q' := by
  rw [Nat.add_comm,Nat.add_mul_div_right _ _ (by omega),Nat.div_eq_of_lt (by omega)]
  omega
 rw [h1,h2]
theorem pieceL_sub {l : List Int} {i k x : Int} (h : x ∈ pieceL l i k) : x ∈ l := by
 unfold pieceL at h
 split at h
 ·exact List.mem_of_mem_drop (List.mem_of_mem_take h)
 ·cases h
theorem batchL_sub {L : List Int} {n b q st t : Nat} {x : Int} (ht : t < q) (h : x ∈ batchL L n b q (st : Int) (t : Int)) : x ∈ pemL L n 0 := by
 unfold batchL at h
 split at h
 ·have e : t / q = 0 := Nat.div_eq_of_lt ht
  rw [show ((t : Int)).toNat = t by omega,e,Nat.zero_mul] at h
  exact List.mem_of_mem_drop (List.mem_of_mem_take h)
 ·cases h
def ShV (m b st E P : Nat) (L bt G : List Int) (j : Nat) (v : Value) (w : World) : Prop :=
 (j = 4 -> ∃ Ao co,v = rsmp m b st Ao E co /\ RSmp w 0 m Ao E co (ordsL L m E)) /\
 (j = 5 -> ∃ A c,v = .slice A bt.length c /\ Rd w 1 A bt.length (iv bt)) /\
 ((j = 6 \/ j = 7) -> ∃ A c,v = .tuple #[.slice A P c,.bool true] /\ Rd w 1 A P (iv G)) /\
 ((j = 8 \/ j = 10) -> ∃ A c,v = .slice A P c /\ Rd w 1 A P (iv G))
theorem ShV.below {m b st E P : Nat} {L bt G : List Int} {j : Nat} {v : Value} {w w' : World} (h : ShV m b st E P L bt G j v w) (hb : Below w.heap.size w w') : ShV m b st E P L bt G j v w' := by
 obtain ⟨h4,h5,h6,h8⟩ := h
 refine ⟨fun e => ?_,fun e => ?_,fun e => ?_,fun e => ?_⟩
 ·obtain ⟨Ao,co,a1,a2⟩ := h4 e
  exact ⟨Ao,co,a1,a2.below hb⟩
 ·obtain ⟨A,c,a1,a2⟩ := h5 e
  exact ⟨A,c,a1,a2.below hb⟩
 ·obtain ⟨A,c,a1,a2⟩ := h6 e
  exact ⟨A,c,a1,a2.below hb⟩
 ·obtain ⟨A,c,a1,a2⟩ := h8 e
  exact ⟨A,c,a1,a2.below hb⟩
end
section
open Go.RowKit
variable {m b st E P : Nat} {L bt G : List Int} {w : World}
theorem ShV.v4 {Ao : Option Addr} {co : Nat} (h : RSmp w 0 m Ao E co (ordsL L m E)) : ShV m b st E P L bt G 4 (rsmp m b st Ao E co) w := ⟨fun _ => ⟨Ao,co,rfl,h⟩,fun e => (by omega),fun e => (by omega),fun e => (by omega)⟩
theorem ShV.v5 {A : Option Addr} {c : Nat} (h : Rd w 1 A bt.length (iv bt)) : ShV m b st E P L bt G 5 (.slice A bt.length c) w := ⟨fun e => (by omega),fun _ => ⟨A,c,rfl,h⟩,fun e => (by omega),fun e => (by omega)⟩
theorem ShV.v6 {A : Option Addr} {c j : Nat} (hj : j = 6 \/ j = 7) (h : Rd w 1 A P (iv G)) : ShV m b st E P L bt G j (.tuple #[.slice A P c,.bool true]) w := ⟨fun e => (by omega),fun e => (by omega),fun _ => ⟨A,c,rfl,h⟩,fun e => (by omega)⟩
theorem ShV.v8 {A : Option Addr} {c j : Nat} (hj : j = 8 \/ j = 10) (h : Rd w 1 A P (iv G)) : ShV m b st E P L bt G j (.slice A P c) w := ⟨fun e => (by omega),fun e => (by omega),fun e => (by omega),fun _ => ⟨A,c,rfl,h⟩⟩
theorem ShV.v9 {v : Value} {j : Nat} (hj : j = 9 \/ j = 11) : ShV m b st E P L bt G j v w := ⟨fun e => (by omega),fun e => (by omega),fun e => (by omega),fun e => (by omega)⟩
end
section
open Go.RowKit
variable (A : Option Addr) (n cap : Nat) (l : List Int) (c : Cfg) (S : Option Addr) (m cS : Nat) (es : List ExS) (zs : List (List Int × List Int)) (AP : Option Addr) (P cP : Nat) (P0 : List Int) (AD : Option Addr) (D cD : Nat) (L : List Int) (x0 x1 : Nat) (w : World)
theorem topShards_any (hcap : n <= cap) (hln : l.length = n) (hr : Rd w 1 A n (iv l)) (hc : In1 c.ra /\ In1 c.mo) (hl : es.length = m) (hzs : zs.length = m) (h : Rd w 2 S m (exV es)) (hex : ∀ (i : Nat) (e : ExS) (z : List Int × List Int),es[i]? = some e -> zs[i]? = some z -> ExAt w e z)
  (hpl : P0.length = P) (hrp : Rd w 1 AP P (iv P0)) (hpi : AllIn P0) (hD : L.length = D) (hrd : Rd w 1 AD D (uv L)) (hu : InU L) (hx0 : x0 < 256) (hx1 : x1 < 256) :
  Calls Tryz.prog 5 #[inV A n cap c S m cS AP P cP AD D cD,.agg #[.int .u8 x0,.int .u8 x1]] w fun e w' => e = .returned (.bool true) /\ Below w.heap.size w w' := by
 have HG : Hid (∀ W,(w.alloc (.cells (inC A n cap c S m cS AP P cP AD D cD) 29)).alloc (.cells #[.int .u8 x0,.int .u8 x1] 70) = W -> Below w.heap.size w W /\ Blk W w.heap.size 29 (inC A n cap c S m cS AP P cP AD D cD) /\ Blk W (w.heap.size + 1) 70 #[.int .u8 x0,.int .u8 x1]) := hid (by
  rintro W rfl
  exact ⟨((Below.refl _ _).alloc (Nat.le_refl _) _).alloc (by simp) _,(Blk.new _ _ _).alloc _,Blk.new' _ _ (by simp)⟩)
 have HF := hid (fun W (b : Below w.heap.size w W) => fewTopG_any A n cap l c S m cS es AP P cP AD D cD W none 0 0 hcap hln (hr.below b) hl (h.below b))
 have HWK := hid (fun W => works_any W)
 obtain ⟨I,hI⟩ : ∃ I,inOf A n cap l c S m cS es zs AP P cP P0 AD D cD L = I := ⟨_,rfl⟩
 have HSN := hid (fun (f : FewG n m P D l c es) W (b : Below w.heap.size w W) => (show Calls Tryz.prog 10 #[inV A n cap c S m cS AP P cP AD D cD] W (SerNewRet (inOf A n cap l c S m cS es zs AP P cP P0 AD D cD L) W) from
  serNew_any (inOf A n cap l c S m cS es zs AP P cP P0 AD D cD L) W ((inOf_at hcap hln hr hl hzs h hex hpl hrp hD hrd f).below b) (inOf_ok hln hc hl hzs hex hpi hD hu f)))
 have HGR := hid (fun (f : FewG n m P D l c es) W rb a (s : SerIn W rb (inOf A n cap l c S m cS es zs AP P cP P0 AD D cD L) a) mic X nI cX (hml : mic.length = nI) (hn : nI <= 1000) (hx : Rd W 1 X nI (iv mic)) (hin : ∀ x ∈ mic,0 <= x /\ x < (m : Int)) =>
  (show Calls Tryz.prog 23 #[.pointer (some ⟨rb,0,none⟩),.slice X nI cX] W fun e w' => ∃ A' c',e = .returned (.tuple #[.slice A' P c',.bool true]) /\ w'.ownsRow W.heap.size 2 1 (.slice A' P c') P (iv (accG ((inOf A n cap l c S m cS es zs AP P cP P0 AD D cD L).mc 0) P0 (zeros P) mic)) /\ Below W.heap.size W w' from
   serGrad_any rb (inOf A n cap l c S m cS es zs AP P cP P0 AD D cD L) a mic X nI cX W (inOf_ok hln hc hl hzs hex hpi hD hu f) hpl s hml hn hx hin))
 have HG14 := hid (fun (f : FewG n m P D l c es) W (b : Below w.heap.size w W) mic X nI cX (hml : mic.length = nI) (hn : nI <= 1000) (hx : Rd W 1 X nI (iv mic)) (hin : ∀ x ∈ mic,0 <= x /\ x < (m : Int)) =>
  (show Calls Tryz.prog 26 #[inV A n cap c S m cS AP P cP AD D cD,.slice AP P cP,.slice X nI cX] W fun e w' => ∃ A' c',e = .returned (.tuple #[.slice A' P c',.bool true]) /\ w'.ownsRow W.heap.size 2 1 (.slice A' P c') P (iv (accG ((inOf A n cap l c S m cS es zs AP P cP P0 AD D cD L).mc 0) P0 (zeros P) mic)) /\ Below W.heap.size W w' from
   refGrad14_any (inOf A n cap l c S m cS es zs AP P cP P0 AD D cD L) AP cP P0 X nI cX mic W ((inOf_at hcap hln hr hl hzs h hex hpl hrp hD hrd f).below b) (inOf_ok hln hc hl hzs hex hpi hD hu f) hpl hpi (hrp.below b) hml hn hx hin))
 obtain ⟨K,hK⟩ : ∃ K,(inOf A n cap l c S m cS es zs AP P cP P0 AD D cD L).mc 0 = K := ⟨_,rfl⟩
 have HKP : Hid (K.NP = P) := hid (by rw [<- hK]; rfl)
 rw [hK] at HGR HG14
 rw [hI] at HSN HGR
 have HRD := hid hrd
 have HDL := hid hD
 have HU := hid hu
 have HX0 := hid hx0
 have HX1 := hid hx1
 clear h hl hln hr hcap hrd hD hu hx0 hx1 hc hzs hex hpl hrp hpi hI hK
 go_enter Tryz.func5,Tryz.ntmps5
 go_wp2_with fail
 obtain ⟨w0,hw0⟩ : ∃ w0,(w.alloc (.cells (inC A n cap c S m cS AP P cP AD D cD) 29)).alloc (.cells #[.int .u8 x0,.int .u8 x1] 70) = w0 := ⟨_,rfl⟩
 obtain ⟨hB,hI⟩ := HG.out _ hw0
 rw [hw0]
 clear hw0 HG
 obtain ⟨hI,hX⟩ := hI
 have HB := hid hB
 have HI := hid hI
 have HX := hid hX
 ((with_reducible refine (HF.out _ HB.out).mono ?_); rintro e w1 ⟨b,rfl,hbt,hb1⟩)
 have HB1 := hid (HB.out.trans (hb1.mono HB.out.size))
 have HI1 := hid (HI.out.kept hb1)
 have HX1' := hid (HX.out.kept hb1)
 have HBT := hid hbt
 clear hB hI hX hbt hb1 HB HI HX
 cases b
 ·go_wp2_with fail
  ((with_reducible refine (HWK.out w1).mono ?_); rintro e w2 ⟨rfl,hb2⟩)
  have HB2 := hid (HB1.out.trans (hb2.mono HB1.out.size))
  clear hb2
  go_wp2_with fail
  go_ret
  exact ⟨rfl,HB2.out⟩
 ·have hf : FewG n m P D l c es := HBT.out (by trivial)
  have HFT := hid hf
  clear hf HBT
  have k := HI1.out
  have c7 : w1.cell? ⟨w.heap.size,7,none⟩ = some (.int .i64 c.st) := k.cell 7
  have cl := k.lt
  clear k
  by_cases hst0 : c.st = 0
  ·have e0 : (c.st == 0) = true := by simp [hst0]
   go_wp2_with fail
   ((with_reducible refine (HWK.out w1).mono ?_); rintro e w2 ⟨rfl,hb2⟩)
   have HB2 := hid (HB1.out.trans (hb2.mono HB1.out.size))
   clear hb2
   go_wp2_with fail
   go_ret
   exact ⟨rfl,HB2.out⟩
  ·have e0 : (c.st == 0) = false := by simp [hst0]
   have HST0 := hid hst0
   clear hst0
   have x0c : w1.cell? ⟨w.heap.size + 1,0,none⟩ = some (.int .u8 x0) := HX1'.out.cell 0
   have x1c : w1.cell? ⟨w.heap.size + 1,1,none⟩ = some (.int .u8 x1) := HX1'.out.cell 1
   have xl := HX1'.out.lt
   have k := HI1.out
   have c5 : w1.cell? ⟨w.heap.size,5,none⟩ = some (.int .i64 c.ba) := k.cell 5
   have c12 : w1.cell? ⟨w.heap.size,12,none⟩ = some (.slice S m cS) := k.cell 12
   have c14 : w1.cell? ⟨w.heap.size,14,none⟩ = some (.slice AD D cD) := k.cell 14
   clear k
   obtain ⟨k1,hk1⟩ : ∃ k1,1 + x0 % 9 = k1 := ⟨_,rfl⟩
   obtain ⟨k2,hk2⟩ : ∃ k2,1 + x1 % 9 = k2 := ⟨_,rfl⟩
   have HK1 := hid hk1
   have HK2 := hid hk2
   clear hk1 hk2
   have wr1 : wrap64 (1 + (wrap64 (x0 : Int)).tmod 9) = (k1 : Int) := by
    have h1 := HK1.out
    have h2 := HX0.out
    rw [wrap64_id (x0 : Int) (by omega) (by omega),Int.tmod_eq_emod_of_nonneg (by omega),wrap64_id _ (by omega) (by omega)]
    omega
   have wr2 : wrap64 (1 + (wrap64 (x1 : Int)).tmod 9) = (k2 : Int) := by
    have h1 := HK2.out
    have h2 := HX1.out
    rw [wrap64_id (x1 : Int) (by omega) (by omega),Int.tmod_eq_emod_of_nonneg (by omega),wrap64_id _ (by omega) (by omega)]
    omega
   have W1 := hid wr1
   have W2 := hid wr2
   clear wr1 wr2
   go_wp2_with fail
   go_region
   rw [W1.out,W2.out]
   have hok := HFT.out.ok
   simp only [okIn,Bool.and_eq_true,decide_eq_true_eq] at hok
   obtain ⟨o1,o2,-,-,o5⟩ := hok
   obtain ⟨a1,a2,a3,a4,a5,a6,a7,a8,a9,a10⟩ := okCfg_nums o1
   have hf := HFT.out.few
   have hst12 := hf.st o1
   have hm60 := hf.m60
   have hD2 := hf.D2000
   obtain ⟨b,hb⟩ : ∃ b : Nat,c.ba = b := ⟨c.ba.toNat,by omega⟩
   obtain ⟨st,hst⟩ : ∃ st : Nat,c.st = st := ⟨c.st.toNat,by omega⟩
   obtain ⟨q,hq⟩ : ∃ q,m / b = q := ⟨_,rfl⟩
   obtain ⟨E,hE⟩ : ∃ E,cnt st q = E := ⟨_,rfl⟩
   have hS := smpNew_any m b st D cD q E AD L w1.drew (by omega) (by omega) hm60 (by omega) hq hE (by omega) HDL.out (HRD.out.below HB1.out.drew) HU.out
   have hneed : E * (m - 1) <= D := by
    have : needN c m = E * (m - 1) := by
     unfold needN
     rw [hb,hst,Int.toNat_natCast,Int.toNat_natCast,hq,hE]
    omega
   have hsp : SmpP m b st q E := by
    have h3 := smpP_top (n := m) (b := b) (st := st) (by omega) (by omega) hm60 (by omega)
    rw [hq,hE] at h3
    exact h3
   have HSP := hid hsp
   have HN := hid hneed
   have HS := hid hS
   have HS14 := hid (fun W (r : Rd W 1 AD D (uv L)) => samp14_any A n cap c S m cS AP P cP AD D cD b st q E L W hb hst (by omega) (by omega) hm60 (by omega) hq hE (by omega) HDL.out r HU.out hneed)
   have HRB12 := hid (fun W Ao co (r : RSmp W 0 m Ao E co (ordsL L m E)) => refBatch_any 0 b st q E m co Ao L W hsp 0 r)
   have HBB := hid hb
   have HST := hid hst
   have HM60 := hid hm60
   have HST1 : Hid (1 <= st) := hid (by have := HST0.out; omega)
   have HSTB : Hid (st <= 60) := hid (by omega)
   clear hq hE hm60 o1 o2 o5 a1 a2 a3 a4 a5 a6 a7 a8 a9 a10 hf hst12 hD2 hneed hS hsp e0
   go_wp2_with fail
   try rw [hst]
   try rw [hb]
   ((with_reducible refine HS.out.mono ?_); rintro e w2 ⟨hb2,(⟨-,bs,rfl,hs2⟩ | ⟨hc,-⟩)⟩)
   rotate_left
   ·exfalso
    have := HN.out
    omega
   have HB2 := hid (HB1.out.drew.trans (hb2.mono HB1.out.drew.size))
   have HI2 := hid ((show Blk w1.drew _ _ _ from HI1.out).kept hb2)
   have HS2 := hid hs2
   clear hb hst hb2 hs2 HS x0c x1c xl c5 c7 c12 c14 cl
   have k := HI2.out
   have c0 : w2.cell? ⟨w.heap.size,0,none⟩ = some (.slice A n cap) := k.cell 0
   have c1 : w2.cell? ⟨w.heap.size,1,none⟩ = some (.int .i64 c.sh) := k.cell 1
   have c2 : w2.cell? ⟨w.heap.size,2,none⟩ = some (.int .i64 c.ra) := k.cell 2
   have c3 : w2.cell? ⟨w.heap.size,3,none⟩ = some (.int .i64 c.mo) := k.cell 3
   have c4 : w2.cell? ⟨w.heap.size,4,none⟩ = some (.int .i64 c.wk) := k.cell 4
   have c5 : w2.cell? ⟨w.heap.size,5,none⟩ = some (.int .i64 c.ba) := k.cell 5
   have c6 : w2.cell? ⟨w.heap.size,6,none⟩ = some (.int .i64 c.mi) := k.cell 6
   have c7 : w2.cell? ⟨w.heap.size,7,none⟩ = some (.int .i64 c.st) := k.cell 7
   have c8 : w2.cell? ⟨w.heap.size,8,none⟩ = some (.int .i64 c.bu) := k.cell 8
   have c9 : w2.cell? ⟨w.heap.size,9,none⟩ = some (.int .i64 c.ch) := k.cell 9
   have c10 : w2.cell? ⟨w.heap.size,10,none⟩ = some (.int .i64 c.wi) := k.cell 10
   have c11 : w2.cell? ⟨w.heap.size,11,none⟩ = some (.int .i64 c.ca) := k.cell 11
   have c12 : w2.cell? ⟨w.heap.size,12,none⟩ = some (.slice S m cS) := k.cell 12
   have c13 : w2.cell? ⟨w.heap.size,13,none⟩ = some (.slice AP P cP) := k.cell 13
   have c14 : w2.cell? ⟨w.heap.size,14,none⟩ = some (.slice AD D cD) := k.cell 14
   have cl := k.lt
   clear k
   go_wp2_with fail
   clear c0 c1 c2 c3 c4 c5 c6 c7 c8 c9 c10 c11 c12 c13 c14 cl
   ((with_reducible refine (HSN.out HFT.out w2 HB2.out).mono ?_); rintro e w3 ⟨rb,ra,rfl,hse3,hb3⟩)
   have HB3 := hid (HB2.out.trans (hb3.mono HB2.out.size))
   have HI3 := hid (HI2.out.kept hb3)
   have HS3 := hid (HS2.out.below hb3)
   have HSE3 := hid hse3
   clear hb3 hse3
   have hp40 := HFT.out.P40
   have hmk := fun W => run_make_row' (P := Tryz.prog) 74 2 (.int .i64 0) 8 Tryz.underlying74 slVec.info rfl .i64 .i64 P (by omega) (by omega) W
   have c13 : w3.cell? ⟨w.heap.size,13,none⟩ = some (.slice AP P cP) := HI3.out.cell 13
   have cl := HI3.out.lt
   go_wp2_with fail
   clear hmk c13 cl hp40
   obtain ⟨w4,hw4⟩ : ∃ w4,w3.alloc (.cells (madeCells #[Value.int .i64 0] P) 2) = w4 := ⟨_,rfl⟩
   obtain ⟨gs,hgs⟩ : ∃ gs,w3.heap.size = gs := ⟨_,rfl⟩
   have hb4 : Below w3.heap.size w3 w4 := by rw [<- hw4]; exact (Below.refl _ _).alloc (Nat.le_refl _) _
   have ho4 : w4.ownsRow gs 2 1 (.slice (some ⟨gs,0,none⟩) P P) P (iv (accG K P0 (zeros P) [])) := by rw [<- hw4]; exact own_made w3 P gs _ _ hgs (Nat.le_refl _) (by have := HFT.out.P40; omega)
   rw [hw4,hgs]
   rw [hgs] at hb4
   have HWG : Hid (w.heap.size <= gs) := hid (by rw [<- hgs]; exact HB3.out.size)
   have HK : Hid (∀ W,Below gs w3 W -> Below w.heap.size w W /\ SmpAt W w1.drew.heap.size bs b st q E (blocksL (q * b) b) (ordsL L m E) /\ Blk W w.heap.size 29 (inC A n cap c S m cS AP P cP AD D cD) /\ SerIn W rb I ra) := hid (fun W h => ⟨HB3.out.trans (h.mono HWG.out),HS3.out.below (by rw [hgs]; exact h),HI3.out.kept (by rw [hgs]; exact h),HSE3.out.below (by rw [hgs]; exact h)⟩)
   have HB4 := hid hb4
   have HO4 := hid ho4
   clear hw4 hgs hb4 ho4 HB3 HI3 HS3 HSE3
   obtain ⟨bt,hbt⟩ : ∃ bt,batchL L m b q (st : Int) ((0 : Nat) : Int) = bt := ⟨_,rfl⟩
   have HBTM : Hid (∀ x ∈ bt,0 <= x /\ x < (m : Int)) := hid (by
    intro x hx
    rw [<- hbt] at hx
    have h1 := batchL_sub (show 0 < q from HSP.out.hq) hx
    refine pem_in L m 0 ?_ x h1
    have h2 := HN.out
    have h4 := HSP.out.hq
    have h5 := HDL.out
    have h6 : 1 <= E := by
     rw [<- HSP.out.hE,<- cnt_up _ _ h4]
     exact (Nat.le_div_iff_mul_le (by omega)).2 (by have := HST1.out; omega)
    have h7 : 1 * (m - 1) <= E * (m - 1) := Nat.mul_le_mul_right _ h6
    omega)
   have HBTL : Hid (bt.length <= 60) := hid (by rw [<- hbt]; exact Nat.le_trans (batchL_le L m b q st 0 HSP.out.hbn) HM60.out)
   have HBT := hid hbt
   clear hbt
   have HK1B : Hid (k1 <= 9) := hid (by have := HK1.out; omega)
   have HK2B : Hid (k2 <= 9) := hid (by have := HK2.out; omega)
   go_wp2_with fail
   go_loopw [69] (fun v wx => ∃ i : Nat,i <= k1 /\ v = .int .i64 i /\ wx.ownsRow gs 2 1 (.slice (some ⟨gs,0,none⟩) P P) P (iv (accG K P0 (zeros P) (accP bt k1 i))) /\ Below gs w3 wx) (fun v _ => k1 - (intOf v).toNat)
   case atStart => exact ⟨0,by omega,rfl,by rw [accP_zero]; exact HO4.out,HB4.out⟩
   case round =>
    obtain ⟨i,hi,rfl,ho,hb⟩ := hrel
    by_cases hlt : i < k1
    ·obtain ⟨pc,hpc⟩ : ∃ pc,pieceL bt (i : Int) (k1 : Int) = pc := ⟨_,rfl⟩
     have hstp := accP_step (l := bt) hlt
     rw [hpc] at hstp
     obtain ⟨G2,hG2⟩ : ∃ G,accG K P0 (zeros P) (accP bt k1 i) = G := ⟨_,rfl⟩
     rw [hG2] at ho
     have HI2' := hid hlt
     have HSTP : Hid (accG K P0 (zeros P) (accP bt k1 (i + 1)) = accG K P0 G2 pc) := hid (by rw [hstp,accG_append,hG2])
     have HG2 := hid hG2
     have HPC := hid hpc
     have HO2 := hid ho
     have HBX2 := hid hb
     have r3 : (i : Int) < (k1 : Int) := by omega
     clear ho hb hpc hG2 hstp hlt
     go_wp2_with fail
     go_loopw [73] (fun v wy => ∃ j : Nat,j <= k2 /\ v = .int .i64 j /\ wy.ownsRow gs 2 1 (.slice (some ⟨gs,0,none⟩) P P) P (iv (accG K P0 G2 (accP pc k2 j))) /\ Below gs w3 wy) (fun v _ => k2 - (intOf v).toNat)
     case atStart => exact ⟨0,by omega,rfl,by rw [accP_zero]; exact HO2.out,HBX2.out⟩
     case round =>
      obtain ⟨j,hj,rfl,ho,hb⟩ := hrel
      by_cases hlt : j < k2
      ·have hk1 := HK1B.out
       have hk2 := HK2B.out
       have hC := smpMicro_any w1.drew.heap.size bs b st q E m L wr HSP.out (0 : Int) i k1 j k2 (HK.out _ hb).2.1 (by omega) (by omega) (by omega) (by omega) (by omega) (by omega) (by omega) (by omega)
       have hbt0 : batchL L m b q (st : Int) 0 = bt := HBT.out
       rw [hbt0,HPC.out] at hC
       clear hbt0
       obtain ⟨mc,hmc⟩ : ∃ mc,pieceL pc (j : Int) (k2 : Int) = mc := ⟨_,rfl⟩
       rw [hmc] at hC
       have hst2 := accP_step (l := pc) hlt
       rw [hmc] at hst2
       obtain ⟨G3,hG3⟩ : ∃ G,accG K P0 G2 (accP pc k2 j) = G := ⟨_,rfl⟩
       rw [hG3] at ho
       have HC := hid hC
       have HJ := hid hlt
       have HO3 := hid ho
       have HBX3 := hid hb
       have HST2 : Hid (accG K P0 G2 (accP pc k2 (j + 1)) = accG K P0 G3 mc) := hid (by rw [hst2,accG_append,hG3])
       have HG3L : Hid (G3.length = P) := hid (by rw [<- hG3,accG_length,<- HG2.out,accG_length]; simp)
       have hzi : AllIn (zeros P) := by
        intro x hx
        obtain rfl := List.eq_of_mem_replicate hx
        exact ⟨by decide,by decide⟩
       have HG3I : Hid (AllIn G3) := hid (by rw [<- hG3,<- HG2.out]; exact accG_in (accG_in hzi _) _)
       have HMCM : Hid (∀ x ∈ mc,0 <= x /\ x < (m : Int)) := hid (fun x hx => by
        rw [<- hmc] at hx
        have h1 := pieceL_sub hx
        rw [<- HPC.out] at h1
        exact HBTM.out x (pieceL_sub h1))
       obtain ⟨M,hM⟩ : ∃ M,mc.length = M := ⟨_,rfl⟩
       have HMB : Hid (M <= 1000) := hid (by
        have h1 := HBTL.out
        have h2 : pc.length <= bt.length := by rw [<- HPC.out]; exact pieceL_le _ _ _
        have h3 : mc.length <= pc.length := by rw [<- hmc]; exact pieceL_le _ _ _
        omega)
       have HM := hid hM
       have r4 : (j : Int) < (k2 : Int) := by omega
       clear ho hb hlt hC hst2 hmc hG3 hzi hM hk1 hk2
       obtain ⟨wm,rfl⟩ : ∃ W : World,W = wr := ⟨_,rfl⟩
       go_wp2_with fail
       ((with_reducible refine HC.out.mono ?_); rintro e w6 ⟨A6,c6,rfl,ho6,hb6⟩)
       rw [HM.out] at ho6 ⊢
       have hgs : gs < wm.heap.size := (HO3.out.lt gs rfl).2
       have HO7 := hid (own_below HO3.out hb6)
       have HB7 := hid (HBX3.out.trans (hb6.mono (Nat.le_of_lt hgs)))
       have hG := HGR.out HFT.out w6 rb ra (HK.out _ HB7.out).2.2.2 mc A6 M c6 HM.out HMB.out (Rd.of_own ho6) HMCM.out
       have HGRD := hid hG
       clear ho6 hb6 hgs hG
       go_wp2_with fail
       ((with_reducible refine HGRD.out.mono ?_); rintro e w7 ⟨A7,c7,rfl,ho7,hb7⟩)
       have HO8 := hid (own_below HO7.out hb7)
       have hgs : gs < w6.heap.size := (HO7.out.lt gs rfl).2
       have HB8 := hid (HB7.out.trans (hb7.mono (Nat.le_of_lt hgs)))
       have HAD := hid (add_any (some ⟨gs,0,none⟩) A7 gs 0 P P c7 P P gs G3 (accG K P0 (zeros P) mc) w7 (fun _ => rfl) (by omega) (by have := HFT.out.P40; omega) HG3L.out (by rw [accG_length]; simp) HO8.out (Rd.of_own ho7) (fun b' o' e h0 e2 => by
        have h1 := (ho7.lt b' (by rw [e]; rfl)).1
        omega))
       clear ho7 hb7 hgs
       go_wp2_with fail
       ((with_reducible refine HAD.out.mono ?_); rintro e w8 ⟨rfl,hz8,hg8⟩)
       have hadd : addAt G3 0 (accG K P0 (zeros P) mc) P = accG K P0 G3 mc := by
        have := accG_add (K := K) (P := P0) (S := G3) (by rw [HKP.out]; exact HG3L.out) HG3I.out mc
        rw [HKP.out] at this
        exact this
       rw [hadd] at hz8
       have HZ9 := hid hz8
       have HB9 := hid (HB8.out.grown hg8 (Nat.le_of_lt (HO8.out.lt gs rfl).2) (fun k e => by injection e with e; omega))
       clear hz8 hg8 hadd
       have hbd0 := HK2B.out
       go_wp2_with fail
       go_roundw
       case rel =>
        have hbd := HK2B.out
        exact ⟨j + 1,HJ.out,by go_num,by rw [HST2.out]; exact HZ9.out,HB9.out⟩
       case measure =>
        have hbd := HK2B.out
        simp [intOf]; have := HJ.out; omega
      ·obtain rfl : j = k2 := by omega
       rw [accP_end (by have := HK2.out; omega)] at ho
       have HOZ := hid ho
       have HBZ := hid hb
       clear ho hb hlt
       have hbd0 := HK1B.out
       go_wp2_with fail
       go_roundw
       case rel =>
        have hbd := HK1B.out
        exact ⟨i + 1,HI2'.out,by go_num,by rw [HSTP.out]; exact HOZ.out,HBZ.out⟩
       case measure =>
        have hbd := HK1B.out
        simp [intOf]; have := HI2'.out; omega
    ·obtain rfl : i = k1 := by omega
     rw [accP_end (by have := HK1.out; omega)] at ho
     have HOF := hid ho
     have HBF := hid hb
     have HBW := hid (HK.out _ hb).1
     have HIW := hid (HK.out _ hb).2.2.1
     clear ho hb hlt
     have k := HIW.out
     have c0 : wr.cell? ⟨w.heap.size,0,none⟩ = some (.slice A n cap) := k.cell 0
     have c1 : wr.cell? ⟨w.heap.size,1,none⟩ = some (.int .i64 c.sh) := k.cell 1
     have c2 : wr.cell? ⟨w.heap.size,2,none⟩ = some (.int .i64 c.ra) := k.cell 2
     have c3 : wr.cell? ⟨w.heap.size,3,none⟩ = some (.int .i64 c.mo) := k.cell 3
     have c4 : wr.cell? ⟨w.heap.size,4,none⟩ = some (.int .i64 c.wk) := k.cell 4
     have c5 : wr.cell? ⟨w.heap.size,5,none⟩ = some (.int .i64 c.ba) := k.cell 5
     have c6 : wr.cell? ⟨w.heap.size,6,none⟩ = some (.int .i64 c.mi) := k.cell 6
     have c7 : wr.cell? ⟨w.heap.size,7,none⟩ = some (.int .i64 c.st) := k.cell 7
     have c8 : wr.cell? ⟨w.heap.size,8,none⟩ = some (.int .i64 c.bu) := k.cell 8
     have c9 : wr.cell? ⟨w.heap.size,9,none⟩ = some (.int .i64 c.ch) := k.cell 9
     have c10 : wr.cell? ⟨w.heap.size,10,none⟩ = some (.int .i64 c.wi) := k.cell 10
     have c11 : wr.cell? ⟨w.heap.size,11,none⟩ = some (.int .i64 c.ca) := k.cell 11
     have c12 : wr.cell? ⟨w.heap.size,12,none⟩ = some (.slice S m cS) := k.cell 12
     have c13 : wr.cell? ⟨w.heap.size,13,none⟩ = some (.slice AP P cP) := k.cell 13
     have c14 : wr.cell? ⟨w.heap.size,14,none⟩ = some (.slice AD D cD) := k.cell 14
     have cl := k.lt
     clear k
     go_wp2_with fail
     refine wp_region_posts (Kept wr) (ShV m b st E P L bt (accG K P0 (zeros P) bt)) (fun _ _ _ _ => True) [0,1,2,3] [4,5,6,7,8,9,10,11] [] (by kernel_rfl) (by kernel_rfl) (Kept.start wr) (fun _ _ _ _ h => h) (fun _ _ _ _ h hb => h.below hb) ?_
     simp only [List.filterMap_cons,List.filterMap_nil,List.getElem?_cons_succ,List.getElem?_cons_zero]
     refine early_step (inV A n cap c S m cS AP P cP AD D cD) rfl (fun W hW => ?_) ?_
     ·obtain ⟨hc,-,-⟩ := hW
      go_simp
     go_simp
     refine early_step (.pointer (some ⟨w.heap.size,13,none⟩)) rfl (fun W hW => ?_) ?_
     ·obtain ⟨hc,-,-⟩ := hW
      go_simp
     go_simp
     refine early_step (.slice AP P cP) rfl (fun W hW => ?_) ?_
     ·obtain ⟨hc,-,-⟩ := hW
      go_simp
     go_simp
     refine early_step (inV A n cap c S m cS AP P cP AD D cD) rfl (fun W hW => ?_) ?_
     ·obtain ⟨hc,-,-⟩ := hW
      go_simp
     go_simp
     clear c0 c1 c2 c3 c4 c5 c6 c7 c8 c9 c10 c11 c12 c13 c14 cl
     refine PostsAt.mk ?_ ?_
     ·intro j8 hj8 o ho8 vs W hS hV
      simp only [List.mem_cons,List.not_mem_nil,or_false] at hj8
      have HS := hid hS
      have HV := hid hV
      have HBW8 := hid (HBW.out.trans (hS.2.2.mono HBW.out.size))
      clear hS hV
      rcases hj8 with rfl | rfl | rfl | rfl | rfl | rfl | rfl | rfl
      ·cases ho8
       unfold PostW
       simp only [puts,dstN,List.getElem?_toArray,List.getElem?_cons_succ,List.getElem?_cons_zero,Option.bind_some]
       change wpList _ _ _ (_ :: []) _ _
       go_wp2_with fail
       ((with_reducible refine (HS14.out _ (HRD.out.below HBW8.out)).mono ?_); rintro e w9 ⟨Ao,co,rfl,hrs9,hb9⟩)
       have HRS9 := hid (hrs9.lower (Nat.zero_le _))
       have HB9 := hid hb9
       clear hrs9 hb9
       go_wp2_with fail
       exact ⟨HS.out.call HB9.out,ShV.v4 HRS9.out,HB9.out⟩
      ·obtain ⟨Ao,co,v4,r4⟩ := (HV.out 4 (by simp) (by kernel_rfl)).1 rfl
       have hR := HRB12.out W Ao co r4
       have hbt0 : batchL L m b q (st : Int) 0 = bt := HBT.out
       rw [hbt0] at hR
       have HR := hid hR
       cases ho8
       unfold PostW
       simp only [puts,dstN,List.getElem?_toArray,List.getElem?_cons_succ,List.getElem?_cons_zero,Option.bind_some]
       rw [v4]
       clear r4 hR hbt0
       change wpList _ _ _ (_ :: []) _ _
       go_wp2_with fail
       ((with_reducible refine HR.out.mono ?_); rintro e w9 ⟨A9,c9,rfl,-,hr9,hb9⟩)
       have HR9 := hid hr9
       have HB9 := hid hb9
       clear hr9 hb9
       go_wp2_with fail
       exact ⟨HS.out.call HB9.out,ShV.v5 HR9.out,HB9.out⟩
      ·obtain ⟨A9,c9,v5,r5⟩ := (HV.out 5 (by simp) (by kernel_rfl)).2.1 rfl
       have HG9 := hid (HG14.out HFT.out W HBW8.out bt A9 bt.length c9 rfl (by have := HBTL.out; omega) r5 HBTM.out)
       cases ho8
       unfold PostW
       simp only [puts,dstN,List.getElem?_toArray,List.getElem?_cons_succ,List.getElem?_cons_zero,Option.bind_some]
       rw [v5]
       clear r5
       change wpList _ _ _ (_ :: []) _ _
       go_wp2_with fail
       ((with_reducible refine HG9.out.mono ?_); rintro e w9 ⟨A8,c8,rfl,ho9,hb9⟩)
       have HR9 := hid (Rd.of_own ho9)
       have HB9 := hid hb9
       clear ho9 hb9
       go_wp2_with fail
       exact ⟨HS.out.call HB9.out,ShV.v6 (.inl rfl) HR9.out,HB9.out⟩
      ·obtain ⟨A9,c9,v6,r6⟩ := (HV.out 6 (by simp) (by kernel_rfl)).2.2.1 (.inl rfl)
       have R6 := hid r6
       cases ho8
       unfold PostW
       simp only [puts,dstN,List.getElem?_toArray,List.getElem?_cons_succ,List.getElem?_cons_zero,Option.bind_some]
       rw [v6]
       clear r6
       change wpList _ _ _ (_ :: []) _ _
       go_wp2_with fail
       exact ⟨HS.out,ShV.v6 (.inr rfl) R6.out,Below.refl _ _⟩
      ·obtain ⟨A9,c9,v6,r6⟩ := (HV.out 7 (by simp) (by kernel_rfl)).2.2.1 (.inr rfl)
       have R6 := hid r6
       cases ho8
       unfold PostW
       simp only [puts,dstN,List.getElem?_toArray,List.getElem?_cons_succ,List.getElem?_cons_zero,Option.bind_some]
       rw [v6]
       clear r6
       change wpList _ _ _ (_ :: []) _ _
       go_wp2_with fail
       exact ⟨HS.out,ShV.v8 (.inl rfl) R6.out,Below.refl _ _⟩
      ·obtain ⟨A9,c9,v6,r6⟩ := (HV.out 7 (by simp) (by kernel_rfl)).2.2.1 (.inr rfl)
       cases ho8
       unfold PostW
       simp only [puts,dstN,List.getElem?_toArray,List.getElem?_cons_succ,List.getElem?_cons_zero,Option.bind_some]
       rw [v6]
       clear r6
       change wpList _ _ _ (_ :: []) _ _
       go_wp2_with fail
       exact ⟨HS.out,ShV.v9 (.inl rfl),Below.refl _ _⟩
      ·obtain ⟨A9,c9,v6,r6⟩ := (HV.out 8 (by simp) (by kernel_rfl)).2.2.2 (.inl rfl)
       have R6 := hid r6
       cases ho8
       unfold PostW
       simp only [puts,dstN,List.getElem?_toArray,List.getElem?_cons_succ,List.getElem?_cons_zero,Option.bind_some]
       rw [v6]
       clear r6
       change wpList _ _ _ (_ :: []) _ _
       go_wp2_with fail
       exact ⟨HS.out,ShV.v8 (.inr rfl) R6.out,Below.refl _ _⟩
      ·cases ho8
       unfold PostW
       simp only [puts,dstN,List.getElem?_toArray,List.getElem?_cons_succ,List.getElem?_cons_zero,Option.bind_some]
       change wpList _ _ _ (_ :: []) _ _
       go_wp2_with fail
       exact ⟨HS.out,ShV.v9 (.inr rfl),Below.refl _ _⟩
     ·intro vs W hS hV hR
      obtain ⟨A9,c9,v10,r10⟩ := (hV 10 (by simp)).2.2.2 (.inr rfl)
      simp only [puts,dstN,List.filterMap_cons,List.filterMap_nil,List.getElem?_toArray,List.getElem?_cons_succ,List.getElem?_cons_zero,Option.bind_some]
      rw [v10]
      have HBW9 := hid (HBW.out.trans (hS.2.2.mono HBW.out.size))
      have HO9 := hid (Rd.of_own (own_below HOF.out hS.2.2))
      have HR9 := hid r10
      clear hS hV hR v10 r10
      unfold wpList
      refine NoPanic.normal ?_
      go_wp2_with fail
      ((with_reducible refine (HWK.out _).mono ?_); rintro e w9 ⟨rfl,hb9⟩)
      have HBW10 := hid (HBW9.out.trans (hb9.mono HBW9.out.size))
      have HSAME := hid (refSame_any (some ⟨gs,0,none⟩) A9 P P P c9 (accG K P0 (zeros P) bt) (accG K P0 (zeros P) bt) w9 (by rw [accG_length]; simp) (by rw [accG_length]; simp) (HO9.out.below hb9) (HR9.out.below hb9) (by have := HFT.out.P40; omega) (by have := HFT.out.P40; omega))
      clear hb9
      go_wp2_with fail
      ((with_reducible refine HSAME.out.mono ?_); rintro e w10 ⟨rfl,hb10⟩)
      have HBW11 := hid (HBW10.out.trans (hb10.mono HBW10.out.size))
      clear hb10
      simp only [decide_true]
      go_wp2_with fail
      go_ret
      exact ⟨rfl,HBW11.out⟩
end
theorem leaving_of_lone {P : Program} {n : Nat} {m : Machine} {fr : Frame} {w w' : World} (h : runN P n m = .next (lone fr [] w)) : leavingAtReturn P (lone fr [] w) w' (runNT P (n + 1) m #[]).2 :=
 ⟨handedOver_of_lone h,⟨fun g hg => by simp [lone] at hg,rfl⟩,fun i g hg hi => by
  cases i with
  | zero => exact absurd rfl hi
  | succ k => simp [lone] at hg⟩
theorem returnsInLeaving_of_calls {a : Assume} {C : Checked} {os : Os} {f : FuncId} {r : Reach} {Pre : World -> Array Value -> Prop} {Post : World -> Array Value -> Value -> World -> Prop}
  (own : ownKnob C.prog.godebug = none) (started : os.Started) (noInit : C.prog.inits.idxOf? f = none)
  (witness : ∃ (w : World) (tape : Tape) (i : Input),w.os = os /\ (w.forCall tape i).Shaped C.prog /\ i.vars = [] /\ Input.okWide C.prog (w.forCall tape i) r w.heap.size f i /\ Pre (w.forCall tape i).memory i.args /\
   a.holds C.prog (lone (Frame.enter C.prog f i.args .normal) [] (w.forCall tape i)))
  (contract : ∀ (w : World) (tape : Tape) (i : Input),w.os = os -> (w.forCall tape i).ShapedOpen C.prog -> i.vars = [] -> Input.okWide C.prog (w.forCall tape i) r w.heap.size f i -> Pre (w.forCall tape i).memory i.args ->
   a.holds C.prog (lone (Frame.enter C.prog f i.args .normal) [] (w.forCall tape i)) ->
   Calls C.prog f i.args (w.forCall tape i) fun
    | .returned v,w' => Post (w.forCall tape i).blind i.args v w'.blind
    | _,_ => False) :
  ReturnsInLeavingWide a C os f r Pre Post := fun enter => by
 obtain ⟨w0,t0,i0,a1,a2,a3,a4,a5,a6⟩ := witness
 refine ⟨enter,own,started,⟨w0,t0,i0,a1,a2,a3,a4,a5,a6,trivial⟩,fun w tape i h => ?_⟩
 obtain ⟨n,v,w',fr,hn,hend,hp⟩ := (contract w tape i h.1 h.2.1 h.2.2.1 h.2.2.2.1 h.2.2.2.2.1 h.2.2.2.2.2.1).done_lone noInit
 exact ⟨n + 1,v,w',hend,(clean_of_lone hn).2,roomy_placeholder ..,hp,⟨n,_,hn,step_of_runs hn hend,leaving_of_lone hn⟩,fun _ _ _ => trivial⟩
section
variable {H : Type} {enc : TypeId × Value → H}
theorem returnsInLeaving_of_change_sized {a : Assume} {C : Checked} {os : Os} {f : FuncId} {fn : Func} {s : ChangeSpec} {conds : List PathCond} {apart fresh handsOn again : Bool}
  (own : ownKnob C.prog.godebug = none) (started : os.Started) (noInit : C.prog.inits.idxOf? f = none) (hfn : C.prog.funcs[f]? = some fn)
  (witness : ∃ (w : World) (tape : Tape) (i : Input),w.os = os /\ (w.forCall tape i).Shaped C.prog /\ i.vars = [] /\ Input.okWide C.prog (w.forCall tape i) .any w.heap.size f i /\
   s.pre6 enc C.prog fn conds apart (w.forCall tape i).memory i.args /\ a.holds C.prog (lone (Frame.enter C.prog f i.args .normal) [] (w.forCall tape i)))
  (contract : ∀ (W : World) (base : Nat) (args : Array Value) (ds gs : List (DataW H)) (before : List MemPlace),
   (∀ (j : Nat) t v,fn.params[j]? = some t -> args[j]? = some v -> Value.okWide C.prog W .any base t v) ->
   DataW.Whole enc C.prog fn.params.toList s.vars apart W args.toList ds gs before ->
   conds.all (PathCond.test C.prog ⟨fn.params.toList,ds,s.plain.varTypes C.prog,gs⟩) = true ->
   (DataW.weightsEach C.prog (fn.params.toList ++ s.plain.varTypes C.prog) (ds ++ gs)).all (· <= reachBytes) = true ->
   a.holds C.prog (lone (Frame.enter C.prog f args .normal) [] W) ->
   Calls C.prog f args W fun e W' => ∃ v,e = .returned v /\ s.post enc C.prog fn apart fresh handsOn again W args v W') :
  ReturnsInLeavingWide a C os f .any (s.pre6 enc C.prog fn conds apart) (s.post enc C.prog fn apart fresh handsOn again) := by
 refine returnsInLeaving_of_calls own started noInit witness ?_
 intro w tape i _ _ _ hok hpre hholds
 obtain ⟨_,_,_,fn',hfn',_,_,_,_,hval⟩ := hok
 have e : fn' = fn := Option.some.inj (hfn'.symm.trans hfn)
 subst e
 obtain ⟨⟨ds,gs,before,hw,hc⟩,hz⟩ := hpre
 have hw' := DataW.Whole.of_heap (w' := w.forCall tape i) (by rfl) hw
 refine (contract (w.forCall tape i) w.heap.size i.args ds gs before hval hw' hc (hz.weights hw) hholds).mono fun e W' ⟨v,he,hp⟩ => ?_
 subst he
 exact ChangeSpec.post_blind hp
end
end Go.Proofs.YtkmaeipoaoikpaaGreat
