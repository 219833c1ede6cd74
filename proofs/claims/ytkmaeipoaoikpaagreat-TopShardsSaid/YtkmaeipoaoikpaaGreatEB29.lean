/- In, Few10, Few11, Few14, Few21. -/
import Derived.Test.YtkmaeipoaoikpaaGreatEB25
import Derived.Test.YtkmaeipoaoikpaaGreatEB28
namespace Go.Proofs.YtkmaeipoaoikpaaGreat
set_option linter.all false
set_option maxRecDepth 100000
set_option maxHeartbeats 4000000
open Lib (hid)
section
open Go.RowKit
structure InC where
 A : Option Addr
 n : Nat
 cap : Nat
 l : List Int
 c : Cfg
 S : Option Addr
 m : Nat
 cS : Nat
 es : List StS
 N : Nat
 M : Nat
 f : Nat -> List Int × List Int
 AP : Option Addr
 P : Nat
 cP : Nat
 P0 : List Int
 AD : Option Addr
 D : Nat
 cD : Nat
 L : List Int
def exsOf (N M : Nat) (es : List StS) : List ExS := es.map fun s => ((s.1,N,s.2.1),(s.2.2.1,M,s.2.2.2))
theorem exsOf_length (N M : Nat) (es : List StS) : (exsOf N M es).length = es.length := by simp [exsOf]
theorem exV_of (N M : Nat) (es : List StS) : exV (exsOf N M es) = stv N M es := by
 induction es with
 | nil => rfl
 | cons s l ih =>
  show exV (_ :: exsOf N M l) = _
  rw [exV_cons,ih]
  rfl
structure InAt (w : World) (I : InC) : Prop where
 hl : I.l.length = I.n
 rl : Rd w 1 I.A I.n (iv I.l)
 cap : I.n <= I.cap
 el : I.es.length = I.m
 re : Rd w 2 I.S I.m (stv I.N I.M I.es)
 rs : RdS w I.N I.M I.es I.f
 pl : I.P0.length = I.P
 rp : Rd w 1 I.AP I.P (iv I.P0)
 dl : I.L.length = I.D
 rd : Rd w 1 I.AD I.D (uv I.L)
theorem InAt.below {w w' : World} {I : InC} (h : InAt w I) (hb : Below w.heap.size w w') : InAt w' I :=
 ⟨h.hl,h.rl.below hb,h.cap,h.el,h.re.below hb,h.rs.below hb,h.pl,h.rp.below hb,h.dl,h.rd.below hb⟩
structure InC.Ok (I : InC) : Prop where
 ok : okIn I.l I.c (exsOf I.N I.M I.es) I.m I.P I.D = true
 hl : I.l.length = I.n
 el : I.es.length = I.m
 dl : I.L.length = I.D
 hN : I.N = szN I.l 0
 hM : I.M = szN I.l (I.n - 1)
 fl : ∀ i,i < I.m -> (I.f (i + 1)).1.length = I.N /\ (I.f (i + 1)).2.length = I.M
 fi : ∀ i,i < I.m -> AllIn (I.f (i + 1)).1
 m60 : I.m <= 60
 st : I.c.st <= 12
 P60 : I.P <= 60
 wk : I.c.wk <= 8
 mi : I.c.mi <= 20
 D4 : I.D <= 4000
 lu : InU I.L
 pi : AllIn I.P0
 ra : In1 I.c.ra
 mo : In1 I.c.mo
def pcI (c : Cfg) (P : Nat) : PlC := ⟨P,c.bu.toNat,c.wk.toNat,c.ch,c.wi.toNat,c.mi.toNat⟩
def InC.mc (I : InC) (x : Nat) : MC := ⟨I.l,I.n,I.P,I.c,x,I.m,I.N,I.M,I.f,I.L,I.c.ba.toNat,I.c.st.toNat,I.m / I.c.ba.toNat,cnt I.c.st.toNat (I.m / I.c.ba.toNat),pcI I.c I.P⟩
theorem cnt_szN {l : List Int} (hp : ∀ (k : Nat) (x : Int),l[k]? = some x -> 1 <= x) : ∀ k,k < l.length -> cntS l k = (ofN l k : Int) := by
 have hs : ∀ k,k < l.length -> l.getD k 0 = (szN l k : Int) := by
  intro k hk
  have h1 := hp k l[k] (List.getElem?_eq_getElem hk)
  unfold szN
  rw [List.getD_eq_getElem?_getD,List.getElem?_eq_getElem hk]
  simp only [Option.getD_some]
  omega
 intro k
 induction k with
 | zero => intro _; rfl
 | succ k ih =>
  intro hk
  have h1 := hs (k + 1) hk
  have h2 := hs k (by omega)
  have e := ih (by omega)
  show _ = ((ofN l k + szN l (k + 1) * szN l k + szN l (k + 1) : Nat) : Int)
  rw [cntS]
  rw [e,h1,h2]
  rw [Int.add_mul,Int.one_mul,Int.mul_comm]
  simp only [Int.natCast_add,Int.natCast_mul]
  omega
structure InC.Nums (I : InC) : Prop where
 cfg : okCfg I.l I.c = true
 ba : I.c.ba <= (I.m : Int)
 cn : (I.P : Int) = cntS I.l (I.n - 1)
 need : needN I.c I.m <= I.D
 wk : 1 <= I.c.wk /\ I.c.wk <= 64
 sh : 1 <= I.c.sh /\ I.c.sh <= 62
 sz : sizesB I.l = true
 mi : 1 <= I.c.mi /\ I.c.mi <= 1048576
 bu : 1 <= I.c.bu /\ I.c.bu <= 1048576
 ch : 1 <= I.c.ch /\ I.c.ch <= 1048576
 wi : 1 <= I.c.wi /\ I.c.wi <= 1048576
 ca : 1 <= I.c.ca /\ I.c.ca <= 1048576
 st : 0 <= I.c.st /\ I.c.st <= 1048576
 bw : I.c.wk <= I.c.ba /\ I.c.ba <= 1048576
theorem InC.Ok.nums {I : InC} (h : I.Ok) : I.Nums := by
 have h0 := h.ok
 unfold okIn at h0
 simp only [Bool.and_eq_true,decide_eq_true_eq] at h0
 obtain ⟨h1,h2,h3,h4,h5⟩ := h0
 obtain ⟨a1,a2,a3,a4,a5,a6,a7,a8,a9,a10⟩ := okCfg_nums h1
 rw [h.hl] at h4
 exact ⟨h1,h2,h4,h5,a1,a2,a3,a4,a5,a6,a7,a8,a9,a10⟩
theorem InC.Ok.mc {I : InC} (h : I.Ok) {x : Nat} (hx : (x : Int) < I.c.wk) : (I.mc x).Ok := by
 have N := h.nums
 obtain ⟨s2,s16,sw,-⟩ := sizesB_nums N.sz
 rw [h.hl] at s2 s16
 have hpos : ∀ (k : Nat) (x : Int),I.l[k]? = some x -> 1 <= x := by
  intro k x hk
  have hm := List.mem_of_getElem? hk
  have h1 : ¬ (I.l.any fun x => decide (x < 1) || decide (1048576 < x)) = true := by
   have : wrongS I.l = false := sw
   unfold wrongS at this
   rw [this]
   decide
  rw [List.any_eq_true] at h1
  have h2 : ¬ (decide (x < 1) || decide (1048576 < x)) = true := fun e => h1 ⟨x,hm,e⟩
  simp at h2
  omega
 have hcn := N.cn
 rw [cnt_szN hpos (I.n - 1) (by rw [h.hl]; omega)] at hcn
 have hP : ofN I.l (I.n - 1) = I.P := by omega
 have P60 := h.P60
 have hsz : ∀ k,k < I.n -> I.l[k]? = some (szN I.l k : Int) /\ 1 <= szN I.l k := by
  intro k hk
  have hlt : k < I.l.length := by rw [h.hl]; exact hk
  have h1 := hpos k _ (List.getElem?_eq_getElem hlt)
  have e : szN I.l k = I.l[k].toNat := by unfold szN; rw [List.getD_eq_getElem?_getD,List.getElem?_eq_getElem hlt]; rfl
  rw [e,List.getElem?_eq_getElem hlt]
  exact ⟨by congr 1; omega,by omega⟩
 have hle : ∀ k,k < I.n -> szN I.l k <= 60 := by
  intro k hk
  cases k with
  | zero =>
   have h1 : ofN I.l 1 <= I.P := by rw [<- hP]; exact ofN_mono _ _ _ (by omega)
   have h2 : ofN I.l 1 = 0 + szN I.l 1 * szN I.l 0 + szN I.l 1 := rfl
   have h3 := (hsz 1 (by omega)).2
   have h4 : 1 * szN I.l 0 <= szN I.l 1 * szN I.l 0 := Nat.mul_le_mul_right _ h3
   omega
  | succ k =>
   have h1 : ofN I.l (k + 1) <= I.P := by rw [<- hP]; exact ofN_mono _ _ _ (by omega)
   have h2 : ofN I.l (k + 1) = ofN I.l k + szN I.l (k + 1) * szN I.l k + szN I.l (k + 1) := rfl
   omega
 have hba : (I.c.ba.toNat : Int) = I.c.ba := by have := N.bw; have := N.wk; omega
 have hst : (I.c.st.toNat : Int) = I.c.st := by have := N.st; omega
 have hb1 : 1 <= I.c.ba.toNat := by have := N.bw; have := N.wk; omega
 have hbm : I.c.ba.toNat <= I.m := by have := N.ba; omega
 have m60 := h.m60
 have hq1 : 1 <= I.m / I.c.ba.toNat := (Nat.le_div_iff_mul_le (by omega)).2 (by omega)
 have hqm : I.m / I.c.ba.toNat * I.c.ba.toNat <= I.m := Nat.div_mul_le_self _ _
 have hqle : I.m / I.c.ba.toNat <= I.m := Nat.div_le_self _ _
 have hc : cnt (I.m / I.c.ba.toNat * I.c.ba.toNat) I.c.ba.toNat = I.m / I.c.ba.toNat := by
  rw [<- cnt_up _ _ hb1,show I.m / I.c.ba.toNat * I.c.ba.toNat + I.c.ba.toNat - 1 = (I.c.ba.toNat - 1) + I.c.ba.toNat * (I.m / I.c.ba.toNat) by rw [Nat.mul_comm]; omega,Nat.add_mul_div_left _ _ (by omega),Nat.div_eq_of_lt (by omega),Nat.zero_add]
 refine ⟨h.hl,s2,s16,fun k x hk => ?_,hP,by show I.P <= 1000; omega,?_,by show 0 <= I.c.sh; have := N.sh; omega,N.sh.2,h.hN,h.hM,h.fl,h.fi,⟨hq1,by show I.m / I.c.ba.toNat <= 1000; omega,hb1,hbm,hqm,by show I.m <= 1000; omega,?_,hc,rfl,rfl⟩,?_,⟨?_,h.P60,?_,?_,?_,?_,?_,?_,?_,?_,?_⟩,⟨?_,rfl,?_,?_,?_,N.st.1,h.st⟩,rfl,?_,hst.symm,h.ra,h.mo⟩
 ·have hlt : k < I.l.length := (List.getElem?_eq_some_iff.1 hk).1
  have h1 := hle k (by rw [<- h.hl]; exact hlt)
  have h2 := hpos k x hk
  have e := (hsz k (by rw [<- h.hl]; exact hlt)).1
  have hk' : I.l[k]? = some x := hk
  rw [hk'] at e
  injection e with e
  omega
 ·have h1 : ofN I.l 1 <= I.P := by rw [<- hP]; exact ofN_mono _ _ _ (by omega)
  have h2 : ofN I.l 1 = 0 + szN I.l 1 * szN I.l 0 + szN I.l 1 := rfl
  have h3 := (hsz 1 (by omega)).2
  show 1 <= I.P
  omega
 ·have := h.st
  show I.c.st.toNat <= 1000
  omega
 ·have := N.need
  unfold needN at this
  show cnt _ _ * (I.m - 1) <= I.L.length
  rw [h.dl]
  exact this
 ·have h1 : ofN I.l 1 <= I.P := by rw [<- hP]; exact ofN_mono _ _ _ (by omega)
  have h2 : ofN I.l 1 = 0 + szN I.l 1 * szN I.l 0 + szN I.l 1 := rfl
  have h3 := (hsz 1 (by omega)).2
  show 1 <= I.P
  omega
 ·have := N.bu; show 1 <= I.c.bu.toNat; omega
 ·have := N.bu; show I.c.bu.toNat <= 1048576; omega
 ·have := N.wk; show 1 <= I.c.wk.toNat; omega
 ·have := h.wk; show I.c.wk.toNat <= 8; omega
 ·exact N.ch.2
 ·have := N.wi; show 1 <= I.c.wi.toNat; omega
 ·have := N.wi; show I.c.wi.toNat <= 1048576; omega
 ·have := N.mi; show 1 <= I.c.mi.toNat; omega
 ·have := h.mi; show I.c.mi.toNat <= 20; omega
 ·have := N.wk; show I.c.wk = (I.c.wk.toNat : Int); omega
 ·have := N.mi; show I.c.mi = (I.c.mi.toNat : Int); omega
 ·have := N.wi; show I.c.wi = (I.c.wi.toNat : Int); omega
 ·have := N.bu; show I.c.bu = (I.c.bu.toNat : Int); omega
 ·show x < I.c.wk.toNat
  omega
def exSum (es : List ExS) : Nat -> Int
 | 0 => 0
 | k + 1 => match es[k]? with
  | some s => wrap64 (wrap64 (exSum es k + if 1000 < (s.1.2.1 : Int) then 1000 else (s.1.2.1 : Int)) + if 1000 < (s.2.2.1 : Int) then 1000 else (s.2.2.1 : Int))
  | none => exSum es k
def few10B (es : List ExS) (m : Nat) : Bool := decide (m <= 60) && decide (exSum es (min m 100) <= 600)
def Few10Ret (es : List ExS) (m : Nat) (w : World) (e : Ending) (w' : World) : Prop := e = .returned (.bool (few10B es m)) /\ Below w.heap.size w w'
theorem few10_any (S : Option Addr) (m cS : Nat) (es : List ExS) (w : World) (hl : es.length = m) (h : Rd w 2 S m (exV es)) :
  Calls Tryz.prog 227 #[.slice S m cS] w (Few10Ret es m w) := by
 have HL := hid hl
 have HR := hid h
 clear hl h
 go_enter Tryz.func227,Tryz.ntmps227
 go_wp2_with fail
 go_loopw [3,4] (fun o v wr => ∃ (i : Nat) (z : Int),i <= m /\ i <= 100 /\ exSum es i = z /\ o = .int .i64 z /\ v = .int .i64 i /\ Below w.heap.size w wr) (fun _ v _ => 100 - (intOf v).toNat)
 case atStart => exact ⟨0,0,by omega,by omega,rfl,rfl,rfl,Below.refl _ _⟩
 case round =>
  obtain ⟨i,z,him,hi,hz,rfl,rfl,hb⟩ := hrel
  have HZ := hid hz
  clear hz
  by_cases hlt : i < m /\ i < 100
  ·obtain ⟨h1,h2⟩ := hlt
   obtain ⟨s,hs⟩ : ∃ s,es[i]? = some s := ⟨_,List.getElem?_eq_getElem (by rw [HL.out]; exact h1)⟩
   obtain ⟨b5,o5,hA5,l5,q0,q1⟩ := exV_rd (HR.out.below hb) hs h1
   have HB := hid hb
   have HA := hid hA5
   have H1 := hid h1
   have H2 := hid h2
   have r1 : (0 : Int) <= (i : Int) := by omega
   have r2 : (i : Int) < (m : Int) := by omega
   have r3 : (i : Int) < 100 := by omega
   have HS := hid hs
   clear hb hA5 h1 h2 hs
   rw [HA.out]
   go_wp2_with fail
   go_region
   obtain ⟨z',hz'⟩ : ∃ z',wrap64 (wrap64 (z + if 1000 < (s.1.2.1 : Int) then 1000 else (s.1.2.1 : Int)) + if 1000 < (s.2.2.1 : Int) then 1000 else (s.2.2.1 : Int)) = z' := ⟨_,rfl⟩
   rw [hz']
   have hz2 : exSum es (i + 1) = z' := by rw [exSum,HS.out]; simp only []; rw [HZ.out]; exact hz'
   have HZ2 := hid hz2
   clear hz' hz2
   generalize wrap64 (z + if 1000 < (s.1.2.1 : Int) then 1000 else (s.1.2.1 : Int)) = z2
   generalize (if 1000 < (s.1.2.1 : Int) then 1000 else (s.1.2.1 : Int)) = z3
   generalize (if 1000 < (s.2.2.1 : Int) then 1000 else (s.2.2.1 : Int)) = z4
   go_wp2_with fail
   have h1 := H1.out
   have h2 := H2.out
   refine ⟨⟨i + 1,z',by omega,by omega,HZ2.out,rfl,rfl,HB.out.drew⟩,?_⟩
   simp [intOf]
   omega
  ·have HB := hid hb
   clear hb
   have fin : (60 < m) \/ m <= 60 := by omega
   have fz : (z <= 600) \/ ¬ z <= 600 := by omega
   have hmin : min m 100 = i := by
    by_cases h1 : i < m
    ·have h2 : ¬ i < 100 := fun e => hlt ⟨h1,e⟩
     omega
    ·omega
   have hF : few10B es m = (decide (m <= 60) && decide (z <= 600)) := by rw [few10B,hmin,HZ.out]
   have HF := hid hF
   clear hF hmin
   by_cases h1 : i < m
   ·have h2 : ¬ i < 100 := fun e => hlt ⟨h1,e⟩
    have r2 : (i : Int) < (m : Int) := by omega
    have r3 : ¬ (i : Int) < 100 := by omega
    have r4 : ¬ (m : Int) <= 60 := by omega
    have H3 := hid (show ¬ m <= 60 by omega)
    have e4 : decide ((m : Int) <= 60) = false := decide_eq_false r4
    clear hlt h1 h2 him hi fin fz
    go_wp2_with fail
    go_ret
    exact ⟨ret_bool (by rw [HF.out,decide_eq_false H3.out]; rfl),HB.out⟩
   ·have r2 : ¬ (i : Int) < (m : Int) := by omega
    clear hlt h1 him hi
    rcases fin with f | f
    ·have e4 : decide ((m : Int) <= 60) = false := decide_eq_false (by omega)
     have H3 := hid (show ¬ m <= 60 by omega)
     clear f
     go_wp2_with fail
     go_ret
     exact ⟨ret_bool (by rw [HF.out,decide_eq_false H3.out]; rfl),HB.out⟩
    ·have e4 : decide ((m : Int) <= 60) = true := decide_eq_true (by omega)
     have F := hid f
     clear f
     rcases fz with f | f
     ·have e5 : decide (z <= 600) = true := decide_eq_true f
      go_wp2_with fail
      go_ret
      exact ⟨ret_bool (by rw [HF.out,e5,decide_eq_true F.out]; rfl),HB.out⟩
     ·have e5 : decide (z <= 600) = false := decide_eq_false f
      go_wp2_with fail
      go_ret
      exact ⟨ret_bool (by rw [HF.out,e5,decide_eq_true F.out]; rfl),HB.out⟩
end
section
open Go.RowKit
variable (A : Option Addr) (n cap : Nat) (c : Cfg) (S : Option Addr) (m cS : Nat) (es : List ExS) (AP : Option Addr) (P cP : Nat) (AD : Option Addr) (D cD : Nat) (w : World)
def few11B (n : Nat) (es : List ExS) (m P D : Nat) : Bool := decide (n <= 40) && (few10B es m && (decide (P <= 600) && decide (D <= 2000)))
theorem few11B_le {n : Nat} {es : List ExS} {m P D : Nat} (h : few11B n es m P D = true) : n <= 40 /\ m <= 60 /\ P <= 600 /\ D <= 2000 := by
 simp only [few11B,few10B,Bool.and_eq_true,decide_eq_true_eq] at h
 exact ⟨h.1,h.2.1.1,h.2.2.1,h.2.2.2⟩
def Few11Ret (n : Nat) (es : List ExS) (m P D : Nat) (w : World) (e : Ending) (w' : World) : Prop := e = .returned (.bool (few11B n es m P D)) /\ Below w.heap.size w w'
theorem few11_any (hl : es.length = m) (h : Rd w 2 S m (exV es)) :
  Calls Tryz.prog 178 #[inV A n cap c S m cS AP P cP AD D cD] w (Few11Ret n es m P D w) := by
 have HG : Hid (∀ W,w.alloc (.cells (inC A n cap c S m cS AP P cP AD D cD) 29) = W -> Below w.heap.size w W /\ Blk W w.heap.size 29 (inC A n cap c S m cS AP P cP AD D cD)) := hid (by
  rintro W rfl
  exact ⟨(Below.refl _ _).alloc (Nat.le_refl _) _,Blk.new _ _ _⟩)
 have HC := hid (fun W (r : Rd W 2 S m (exV es)) => few10_any S m cS es W hl r)
 have HR := hid h
 clear h hl
 by_cases h40 : n <= 40
 ·have e1 : decide ((n : Int) <= 40) = true := decide_eq_true (by omega)
  have H40 := hid h40
  clear h40
  go_enter Tryz.func178,Tryz.ntmps178
  go_wp2_with fail
  obtain ⟨w0,hw0⟩ : ∃ w0,w.alloc (.cells (inC A n cap c S m cS AP P cP AD D cD) 29) = w0 := ⟨_,rfl⟩
  obtain ⟨hB,hK⟩ := HG.out _ hw0
  rw [hw0]
  clear hw0 HG
  have HB := hid hB
  have HK := hid hK
  ((with_reducible refine (HC.out _ (HR.out.below hB)).mono ?_); rintro e w1 ⟨rfl,hb1⟩)
  obtain ⟨b,hbt⟩ : ∃ b,few10B es m = b := ⟨_,rfl⟩
  rw [hbt]
  have k1 := HK.out.kept hb1
  have HB1 := hid (HB.out.trans (hb1.mono HB.out.size))
  have HBT := hid hbt
  have c13 : w1.cell? ⟨w.heap.size,13,none⟩ = some (.slice AP P cP) := k1.cell 13
  have c14 : w1.cell? ⟨w.heap.size,14,none⟩ = some (.slice AD D cD) := k1.cell 14
  have lc := k1.lt
  clear hB hK hb1 k1 HB HK hbt HC HR
  have fp : P <= 600 \/ ¬ P <= 600 := by omega
  have fd : D <= 2000 \/ ¬ D <= 2000 := by omega
  cases b
  ·clear fp fd
   go_wp2_with fail
   go_ret
   exact ⟨ret_bool (by rw [few11B,HBT.out,decide_eq_true H40.out]; rfl),HB1.out⟩
  ·rcases fp with f | f
   ·have e2 : decide ((P : Int) <= 600) = true := decide_eq_true (by omega)
    have F := hid f
    clear f
    rcases fd with f | f
    ·have e3 : decide ((D : Int) <= 2000) = true := decide_eq_true (by omega)
     have F3 := hid f
     clear f
     go_wp2_with fail
     go_ret
     exact ⟨ret_bool (by rw [few11B,HBT.out,decide_eq_true H40.out,decide_eq_true F.out,decide_eq_true F3.out]; rfl),HB1.out⟩
    ·have e3 : decide ((D : Int) <= 2000) = false := decide_eq_false (by omega)
     have F3 := hid f
     clear f
     go_wp2_with fail
     go_ret
     exact ⟨ret_bool (by rw [few11B,HBT.out,decide_eq_true H40.out,decide_eq_true F.out,decide_eq_false F3.out]; rfl),HB1.out⟩
   ·have e2 : decide ((P : Int) <= 600) = false := decide_eq_false (by omega)
    have F := hid f
    clear f fd
    go_wp2_with fail
    go_ret
    exact ⟨ret_bool (by rw [few11B,HBT.out,decide_eq_true H40.out,decide_eq_false F.out]; rfl),HB1.out⟩
 ·have e1 : decide ((n : Int) <= 40) = false := decide_eq_false (by omega)
  have H40 := hid h40
  clear h40
  go_enter Tryz.func178,Tryz.ntmps178
  go_wp2_with fail
  go_ret
  exact ⟨ret_bool (by rw [few11B,decide_eq_false H40.out]; rfl),(Below.refl _ _).alloc (Nat.le_refl _) _⟩
end
section
open Go.RowKit
variable (A : Option Addr) (n cap : Nat) (l : List Int) (c : Cfg) (S : Option Addr) (m cS : Nat) (es : List ExS) (AP : Option Addr) (P cP : Nat) (AD : Option Addr) (D cD : Nat) (w : World)
theorem okCfg_sizes {l : List Int} {c : Cfg} (h : okCfg l c = true) : l.length <= 16 /\ wrongS l = false := by
 simp only [okCfg,Bool.and_eq_true] at h
 have h1 := h.2.2.1
 simp only [sizesB,Bool.and_eq_true,decide_eq_true_eq,Bool.not_eq_true'] at h1
 exact ⟨h1.1.1.2,h1.1.2⟩
structure Few14 (n m P D : Nat) (l : List Int) (c : Cfg) : Prop where
 n40 : n <= 40
 m60 : m <= 60
 P600 : P <= 600
 D2000 : D <= 2000
 st : okCfg l c = true -> c.st <= 12
def Few14Ret (n m P D : Nat) (l : List Int) (c : Cfg) (w : World) (e : Ending) (w' : World) : Prop := ∃ b : Bool,e = .returned (.bool b) /\ (b = true -> Few14 n m P D l c) /\ Below w.heap.size w w'
theorem few14_any (hln : l.length = n) (hr : Rd w 1 A n (iv l)) (hl : es.length = m) (h : Rd w 2 S m (exV es)) :
  Calls Tryz.prog 95 #[inV A n cap c S m cS AP P cP AD D cD] w (Few14Ret n m P D l c w) := by
 have HG : Hid (∀ W,(w.alloc (.cells (inC A n cap c S m cS AP P cP AD D cD) 29)).alloc (.cells (cfgC A n cap c) 24) = W -> Below w.heap.size w W /\ Blk W w.heap.size 29 (inC A n cap c S m cS AP P cP AD D cD) /\ Blk W (w.heap.size + 1) 24 (cfgC A n cap c)) := hid (by
  rintro W rfl
  exact ⟨((Below.refl _ _).alloc (Nat.le_refl _) _).alloc (by simp) _,(Blk.new _ _ _).alloc _,Blk.new' _ _ (by simp)⟩)
 have HF := hid (fun W (r : Rd W 2 S m (exV es)) => few11_any A n cap c S m cS es AP P cP AD D cD W hl r)
 have HK := hid (fun W (r : Rd W 1 A n (iv l)) (h40 : n <= 40) => refConf_any A n cap l c W hln r (by omega))
 have HCT := hid (fun W (r : Rd W 1 A n (iv l)) (ho : okCfg l c = true) => refCount08_any A n cap l W hln r (by rw [<- hln]; exact (okCfg_sizes ho).1) (okCfg_sizes ho).2)
 have HR := hid h
 have HQ := hid hr
 clear h hl hln hr
 go_enter Tryz.func95,Tryz.ntmps95
 go_wp2_with fail
 obtain ⟨w0,hw0⟩ : ∃ w0,(w.alloc (.cells (inC A n cap c S m cS AP P cP AD D cD) 29)).alloc (.cells (cfgC A n cap c) 24) = w0 := ⟨_,rfl⟩
 obtain ⟨hB,hI,hC⟩ := HG.out _ hw0
 rw [hw0]
 clear hw0 HG
 have HB := hid hB
 have HI := hid hI
 have HC := hid hC
 ((with_reducible refine (HF.out _ (HR.out.below hB)).mono ?_); rintro e w1 ⟨rfl,hb1⟩)
 obtain ⟨b,hbt⟩ : ∃ b,few11B n es m P D = b := ⟨_,rfl⟩
 rw [hbt]
 have HB1 := hid (HB.out.trans (hb1.mono HB.out.size))
 have HI1 := hid (HI.out.kept hb1)
 have HC1 := hid (HC.out.kept hb1)
 have HBT := hid hbt
 clear hB hI hC hbt hb1 HB HI HC
 cases b
 ·have k := HI1.out
  have c0 : w1.cell? ⟨w.heap.size,0,none⟩ = some (.slice A n cap) := k.cell 0
  have c1 : w1.cell? ⟨w.heap.size,1,none⟩ = some (.int .i64 c.sh) := k.cell 1
  have c2 : w1.cell? ⟨w.heap.size,2,none⟩ = some (.int .i64 c.ra) := k.cell 2
  have c3 : w1.cell? ⟨w.heap.size,3,none⟩ = some (.int .i64 c.mo) := k.cell 3
  have c4 : w1.cell? ⟨w.heap.size,4,none⟩ = some (.int .i64 c.wk) := k.cell 4
  have c5 : w1.cell? ⟨w.heap.size,5,none⟩ = some (.int .i64 c.ba) := k.cell 5
  have c6 : w1.cell? ⟨w.heap.size,6,none⟩ = some (.int .i64 c.mi) := k.cell 6
  have c7 : w1.cell? ⟨w.heap.size,7,none⟩ = some (.int .i64 c.st) := k.cell 7
  have c8 : w1.cell? ⟨w.heap.size,8,none⟩ = some (.int .i64 c.bu) := k.cell 8
  have c9 : w1.cell? ⟨w.heap.size,9,none⟩ = some (.int .i64 c.ch) := k.cell 9
  have c10 : w1.cell? ⟨w.heap.size,10,none⟩ = some (.int .i64 c.wi) := k.cell 10
  have c11 : w1.cell? ⟨w.heap.size,11,none⟩ = some (.int .i64 c.ca) := k.cell 11
  have c12 : w1.cell? ⟨w.heap.size,12,none⟩ = some (.slice S m cS) := k.cell 12
  have c13 : w1.cell? ⟨w.heap.size,13,none⟩ = some (.slice AP P cP) := k.cell 13
  have c14 : w1.cell? ⟨w.heap.size,14,none⟩ = some (.slice AD D cD) := k.cell 14
  have lc := k.lt
  clear k
  go_wp2_with fail
  clear c0 c1 c2 c3 c4 c5 c6 c7 c8 c9 c10 c11 c12 c13 c14 lc
  ((with_reducible refine (HF.out _ (HR.out.below HB1.out)).mono ?_); rintro e w2 ⟨rfl,hb2⟩)
  rw [HBT.out]
  have HB2 := hid (HB1.out.trans (hb2.mono HB1.out.size))
  clear hb2
  go_wp2_with fail
  go_ret
  exact ⟨false,rfl,fun e => by simp at e,HB2.out⟩
 ·have k := HC1.out
  have c0 : w1.cell? ⟨w.heap.size + 1,0,none⟩ = some (.slice A n cap) := k.cell 0
  have c1 : w1.cell? ⟨w.heap.size + 1,1,none⟩ = some (.int .i64 c.sh) := k.cell 1
  have c2 : w1.cell? ⟨w.heap.size + 1,2,none⟩ = some (.int .i64 c.ra) := k.cell 2
  have c3 : w1.cell? ⟨w.heap.size + 1,3,none⟩ = some (.int .i64 c.mo) := k.cell 3
  have c4 : w1.cell? ⟨w.heap.size + 1,4,none⟩ = some (.int .i64 c.wk) := k.cell 4
  have c5 : w1.cell? ⟨w.heap.size + 1,5,none⟩ = some (.int .i64 c.ba) := k.cell 5
  have c6 : w1.cell? ⟨w.heap.size + 1,6,none⟩ = some (.int .i64 c.mi) := k.cell 6
  have c7 : w1.cell? ⟨w.heap.size + 1,7,none⟩ = some (.int .i64 c.st) := k.cell 7
  have c8 : w1.cell? ⟨w.heap.size + 1,8,none⟩ = some (.int .i64 c.bu) := k.cell 8
  have c9 : w1.cell? ⟨w.heap.size + 1,9,none⟩ = some (.int .i64 c.ch) := k.cell 9
  have c10 : w1.cell? ⟨w.heap.size + 1,10,none⟩ = some (.int .i64 c.wi) := k.cell 10
  have c11 : w1.cell? ⟨w.heap.size + 1,11,none⟩ = some (.int .i64 c.ca) := k.cell 11
  have lc := k.lt
  clear k
  go_wp2_with fail
  clear c0 c1 c2 c3 c4 c5 c6 c7 c8 c9 c10 c11 lc
  have hle := few11B_le HBT.out
  ((with_reducible refine (HK.out _ (HQ.out.below HB1.out) hle.1).mono ?_); rintro e w2 ⟨cd,rfl,hcd,hb2⟩)
  have HLE := hid hle
  have HCD := hid hcd
  have HB2 := hid (HB1.out.trans (hb2.mono HB1.out.size))
  have HI2 := hid (HI1.out.kept hb2)
  have HC2 := hid (HC1.out.kept hb2)
  clear hle hcd hb2
  by_cases h0 : cd = 0
  ·subst h0
   have HO := hid (HCD.out.1 rfl)
   have k := HC2.out
   have c0 : w2.cell? ⟨w.heap.size + 1,0,none⟩ = some (.slice A n cap) := k.cell 0
   have c5 : w2.cell? ⟨w.heap.size + 1,5,none⟩ = some (.int .i64 c.ba) := k.cell 5
   have c7 : w2.cell? ⟨w.heap.size + 1,7,none⟩ = some (.int .i64 c.st) := k.cell 7
   have lc := k.lt
   clear k
   by_cases f1 : c.st <= 12
   ·have g1 : decide (c.st <= 12) = true := decide_eq_true f1
    have F1 := hid f1
    clear f1
    go_wp2_with fail
    ((with_reducible refine (HCT.out w2 (HQ.out.below HB2.out) HO.out).mono ?_); rintro e w3 ⟨rfl,hb3⟩)
    have HB3 := hid (HB2.out.trans (hb3.mono HB2.out.size))
    have c5' : w3.cell? ⟨w.heap.size + 1,5,none⟩ = some (.int .i64 c.ba) := (HC2.out.kept hb3).cell 5
    have lc' := (HC2.out.kept hb3).lt
    obtain ⟨ct,hct⟩ : ∃ ct,cntS l (n - 1) = ct := ⟨_,rfl⟩
    rw [hct]
    clear hb3 hct c0 c5 c7 lc
    by_cases f2 : ct <= 150
    ·have g2 : decide (ct <= 150) = true := decide_eq_true f2
     by_cases f3 : c.ba <= 40
     ·have g3 : decide (c.ba <= 40) = true := decide_eq_true f3
      clear f2 f3
      go_wp2_with fail
      go_ret
      exact ⟨_,rfl,fun _ => ⟨HLE.out.1,HLE.out.2.1,HLE.out.2.2.1,HLE.out.2.2.2,fun _ => F1.out⟩,HB3.out⟩
     ·have g3 : decide (c.ba <= 40) = false := decide_eq_false f3
      clear f2 f3
      go_wp2_with fail
      go_ret
      exact ⟨_,rfl,fun _ => ⟨HLE.out.1,HLE.out.2.1,HLE.out.2.2.1,HLE.out.2.2.2,fun _ => F1.out⟩,HB3.out⟩
    ·have g2 : decide (ct <= 150) = false := decide_eq_false f2
     clear f2
     go_wp2_with fail
     go_ret
     exact ⟨_,rfl,fun _ => ⟨HLE.out.1,HLE.out.2.1,HLE.out.2.2.1,HLE.out.2.2.2,fun _ => F1.out⟩,HB3.out⟩
   ·have g1 : decide (c.st <= 12) = false := decide_eq_false f1
    clear f1
    go_wp2_with fail
    go_ret
    exact ⟨_,rfl,fun e => by simp at e,HB2.out⟩
  ·have hno : okCfg l c = false := by
    cases hh : okCfg l c with
    | false => rfl
    | true => exact absurd (HCD.out.2 hh) h0
   have HNO := hid hno
   have e5 : (cd == 0) = false := by simp [h0]
   have k := HI2.out
   have c0 : w2.cell? ⟨w.heap.size,0,none⟩ = some (.slice A n cap) := k.cell 0
   have c1 : w2.cell? ⟨w.heap.size,1,none⟩ = some (.int .i64 c.sh) := k.cell 1
   have c2 : w2.cell? ⟨w.heap.size,2,none⟩ = some (.int .i64 c.ra) := k.cell 2
   have c3 : w2.cell? ⟨w.heap.size,3,none⟩ = some (.int .i64 c.mo) := k.cell 3
   have c4 : w2.cell? ⟨w.heap.size,4,none⟩ = some (.int .i64 c.wk) := k.cell 4
   have c5 : w2.cell? ⟨w.heap.size,5,none⟩ = some (.int .i64 c.ba) := k.cell 5
   have c6 : w2.cell? ⟨w.heap.size,6,none⟩ = some (.int .i64 c.mi) := k.cell 6
   have c7 : w2.cell? ⟨w.heap.size,7,none⟩ = some (.int .i64 c.st) := k.cell 7
   have c8 : w2.cell? ⟨w.heap.size,8,none⟩ = some (.int .i64 c.bu) := k.cell 8
   have c9 : w2.cell? ⟨w.heap.size,9,none⟩ = some (.int .i64 c.ch) := k.cell 9
   have c10 : w2.cell? ⟨w.heap.size,10,none⟩ = some (.int .i64 c.wi) := k.cell 10
   have c11 : w2.cell? ⟨w.heap.size,11,none⟩ = some (.int .i64 c.ca) := k.cell 11
   have c12 : w2.cell? ⟨w.heap.size,12,none⟩ = some (.slice S m cS) := k.cell 12
   have c13 : w2.cell? ⟨w.heap.size,13,none⟩ = some (.slice AP P cP) := k.cell 13
   have c14 : w2.cell? ⟨w.heap.size,14,none⟩ = some (.slice AD D cD) := k.cell 14
   have lc := k.lt
   clear k hno
   go_wp2_with fail
   clear c0 c1 c2 c3 c4 c5 c6 c7 c8 c9 c10 c11 c12 c13 c14 lc
   ((with_reducible refine (HF.out _ (HR.out.below HB2.out)).mono ?_); rintro e w3 ⟨rfl,hb3⟩)
   rw [HBT.out]
   have HB3 := hid (HB2.out.trans (hb3.mono HB2.out.size))
   clear hb3
   go_wp2_with fail
   go_ret
   exact ⟨_,rfl,fun _ => ⟨HLE.out.1,HLE.out.2.1,HLE.out.2.2.1,HLE.out.2.2.2,fun e => by rw [HNO.out] at e; cases e⟩,HB3.out⟩
theorem plan21_any : Calls Tryz.prog 70 #[inV A n cap c S m cS AP P cP AD D cD] w fun e w' => e = .returned (rplV A n cap c P) /\ Below w.heap.size w w' := by
 go_enter Tryz.func70,Tryz.ntmps70
 go_wp2_with fail
 (try simp only [Exit.inBlock,Exit.then])
 refine bodyPost_ret (results_cell_row rfl _ _ (w.heap.size + 1) _ _ (0,0) _ rfl (Blk.new' _ _ (by simp)) Tryz.underlying172 rfl (by kernel_rfl)) rfl ?_
 exact ⟨rfl,((Below.refl _ _).alloc (Nat.le_refl _) _).alloc (by simp) _⟩
end
end Go.Proofs.YtkmaeipoaoikpaaGreat
