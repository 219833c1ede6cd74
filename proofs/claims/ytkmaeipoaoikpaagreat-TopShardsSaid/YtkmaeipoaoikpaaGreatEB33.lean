/- MNew1, MNew2, Ser2. -/
import Derived.Test.YtkmaeipoaoikpaaGreatEB32
namespace Go.Proofs.YtkmaeipoaoikpaaGreat
set_option linter.all false
set_option maxRecDepth 100000
set_option maxHeartbeats 8000000
open Lib (hid)
section
open Go.RowKit
def InC.its (I : InC) (x : Nat) : List RItem := (I.mc x).pc.stepI (I.mc x).st x 0
def startMS (I : InC) (x : Nat) : MS := ⟨I.P0,zeros I.P,zeros I.P,[(I.P0,zeros I.P)],I.its x,0,0,[]⟩
end
section
open Go.RowKit
variable (I : InC) (x bs smb plb : Nat) (B : Nat) (F : Nat → Prop)
def X8 (w : World) (S : Option Addr) (c : Nat) (l : List StS) : Prop := l.length = I.m /\ Hg F w (fun W => W.ownsRow 0 162 2 (.slice S I.m c) I.m (stv I.N I.M l) /\ OwnS W 0 I.N I.M l I.f)
def X12 (w : World) (A : Option Addr) (c : Nat) : Prop := Hg F w (fun W => W.ownsRow 0 218 2 (.slice A (I.mc x).pc.nb c) (I.mc x).pc.nb (rv (I.mc x).pc.bks))
def X24 (w : World) (g : Nat) : Prop := B <= g /\ ¬ F g /\ w.ownsRow 0 2 1 (.slice (some ⟨g,0,none⟩) I.P I.P) I.P (iv (zeros I.P))
def X26 (w : World) (y : StS) : Prop := Hg F w (fun W => OwnS W 0 I.P I.P [y] (recF [(I.P0,zeros I.P)]))
def X27 (w : World) (g : Nat) (y : StS) : Prop := B <= g /\ ¬ F g /\ w.ownsRow 0 92 2 (.slice (some ⟨g,0,none⟩) 1 1) 1 (stv I.P I.P [y])
def X30 (w : World) (A : Option Addr) (c : Nat) : Prop := Hg F w (fun W => W.ownsRow 0 222 12 (.slice A (I.its x).length c) (I.its x).length (itemsV (I.its x)))
def NewV (sP sM : Value) (j : Nat) (v : Value) (w : World) : Prop :=
 (j = 8 -> ∃ S c l,v = .slice S I.m c /\ X8 I F w S c l) /\
 (j = 12 -> ∃ A c,v = .slice A (I.mc x).pc.nb c /\ X12 I x F w A c) /\
 (j = 20 -> ∃ S c l A d,v = .agg #[.int .i64 x,.int .i64 I.c.wk,.int .i64 I.c.mi,.pointer (some ⟨bs,0,none⟩),.slice S I.m c,.pointer (some ⟨smb,0,none⟩),.pointer (some ⟨plb,0,none⟩),.slice A (I.mc x).pc.nb d,.int .i64 I.c.ra,.int .i64 I.c.mo,.int .i64 I.c.sh] /\ X8 I F w S c l /\ X12 I x F w A d) /\
 (j = 23 -> v = .int .i64 I.P) /\
 (j = 24 -> ∃ g,v = .slice (some ⟨g,0,none⟩) I.P I.P /\ X24 I B F w g) /\
 (j = 26 -> ∃ y : StS,v = .agg #[.slice y.1 I.P y.2.1,.slice y.2.2.1 I.P y.2.2.2] /\ X26 I F w y) /\
 (j = 27 -> ∃ g y,v = .slice (some ⟨g,0,none⟩) 1 1 /\ X27 I B F w g y /\ X26 I F w y) /\
 (j = 30 -> ∃ A c,v = .slice A (I.its x).length c /\ X30 I x F w A c) /\
 (j = 31 -> ∃ S c l A d gg gr y AI cI,v = .agg #[.int .i64 x,.int .i64 I.c.wk,.int .i64 I.c.mi,.pointer (some ⟨bs,0,none⟩),.slice S I.m c,.pointer (some ⟨smb,0,none⟩),.pointer (some ⟨plb,0,none⟩),.slice A (I.mc x).pc.nb d,.int .i64 I.c.ra,.int .i64 I.c.mo,.int .i64 I.c.sh,
  sP,sM,.slice (some ⟨gg,0,none⟩) I.P I.P,.slice (some ⟨gr,0,none⟩) 1 1,.slice AI (I.its x).length cI,.int .i64 0,.int .i64 0,.slice none 0 0] /\ X8 I F w S c l /\ X12 I x F w A d /\ X24 I B F w gg /\ X26 I F w y /\ X27 I B F w gr y /\ X30 I x F w AI cI)
end
section
open Go.RowKit
variable {I : InC} {x bs smb plb : Nat} {B : Nat} {F F' : Nat → Prop} {w w' : World}
theorem Hg.grow {P : World -> Prop} (h : Hg F w P) (hb : Below w.heap.size w w') (hF : ∀ i,i < w.heap.size -> (F' i ↔ F i)) : Hg F' w' P := (h.mono (fun i hi hFi => (hF i hi).2 hFi)).below hb
theorem X8.grow {S : Option Addr} {c : Nat} {l : List StS} (h : X8 I F w S c l) (hb : Below w.heap.size w w') (hF : ∀ i,i < w.heap.size -> (F' i ↔ F i)) : X8 I F' w' S c l := ⟨h.1,h.2.grow hb hF⟩
theorem X12.grow {A : Option Addr} {c : Nat} (h : X12 I x F w A c) (hb : Below w.heap.size w w') (hF : ∀ i,i < w.heap.size -> (F' i ↔ F i)) : X12 I x F' w' A c := Hg.grow h hb hF
theorem X24.grow {g : Nat} (h : X24 I B F w g) (hb : Below w.heap.size w w') (hF : ∀ i,i < w.heap.size -> (F' i ↔ F i)) : X24 I B F' w' g := ⟨h.1,fun e => h.2.1 ((hF g (h.2.2.lt g rfl).2).1 e),own_below h.2.2 hb⟩
theorem X26.grow {y : StS} (h : X26 I F w y) (hb : Below w.heap.size w w') (hF : ∀ i,i < w.heap.size -> (F' i ↔ F i)) : X26 I F' w' y := Hg.grow h hb hF
theorem X27.grow {g : Nat} {y : StS} (h : X27 I B F w g y) (hb : Below w.heap.size w w') (hF : ∀ i,i < w.heap.size -> (F' i ↔ F i)) : X27 I B F' w' g y := ⟨h.1,fun e => h.2.1 ((hF g (h.2.2.lt g rfl).2).1 e),own_below h.2.2 hb⟩
theorem X30.grow {A : Option Addr} {c : Nat} (h : X30 I x F w A c) (hb : Below w.heap.size w w') (hF : ∀ i,i < w.heap.size -> (F' i ↔ F i)) : X30 I x F' w' A c := Hg.grow h hb hF
theorem NewV.grow {sP sM : Value} (F F' : Nat -> Prop) (j : Nat) (v : Value) (w w' : World) (h : NewV I x bs smb plb B F sP sM j v w) (hb : Below w.heap.size w w') (hF : ∀ i,i < w.heap.size -> (F' i ↔ F i)) : NewV I x bs smb plb B F' sP sM j v w' := by
 obtain ⟨h1,h2,h3,h4,h5,h6,h7,h8,h9⟩ := h
 refine ⟨fun e => ?_,fun e => ?_,fun e => ?_,h4,fun e => ?_,fun e => ?_,fun e => ?_,fun e => ?_,fun e => ?_⟩
 ·obtain ⟨S,c,l,hv,a⟩ := h1 e
  exact ⟨S,c,l,hv,a.grow hb hF⟩
 ·obtain ⟨A,c,hv,a⟩ := h2 e
  exact ⟨A,c,hv,a.grow hb hF⟩
 ·obtain ⟨S,c,l,A,d,hv,a,b⟩ := h3 e
  exact ⟨S,c,l,A,d,hv,a.grow hb hF,b.grow hb hF⟩
 ·obtain ⟨g,hv,a⟩ := h5 e
  exact ⟨g,hv,a.grow hb hF⟩
 ·obtain ⟨y,hv,a⟩ := h6 e
  exact ⟨y,hv,a.grow hb hF⟩
 ·obtain ⟨g,y,hv,a,b⟩ := h7 e
  exact ⟨g,y,hv,a.grow hb hF,b.grow hb hF⟩
 ·obtain ⟨A,c,hv,a⟩ := h8 e
  exact ⟨A,c,hv,a.grow hb hF⟩
 ·obtain ⟨S,c,l,A,d,gg,gr,y,AI,cI,hv,a,b,b2,b3,b4,b5⟩ := h9 e
  exact ⟨S,c,l,A,d,gg,gr,y,AI,cI,hv,a.grow hb hF,b.grow hb hF,b2.grow hb hF,b3.grow hb hF,b4.grow hb hF,b5.grow hb hF⟩
end
section
open Go.RowKit
variable {I : InC} {x bs smb plb : Nat} {B : Nat} {F F' : Nat → Prop} {w w' : World}
variable {sP sM : Value} {v : Value}
theorem NewV.mk8 {S : Option Addr} {c : Nat} {l : List StS} (h : X8 I F w S c l) : NewV I x bs smb plb B F sP sM 8 (.slice S I.m c) w := ⟨fun _ => ⟨S,c,l,rfl,h⟩,fun e => (by omega),fun e => (by omega),fun e => (by omega),fun e => (by omega),fun e => (by omega),fun e => (by omega),fun e => (by omega),fun e => (by omega)⟩
theorem NewV.mk12 {A : Option Addr} {c : Nat} (h : X12 I x F w A c) : NewV I x bs smb plb B F sP sM 12 (.slice A (I.mc x).pc.nb c) w := ⟨fun e => (by omega),fun _ => ⟨A,c,rfl,h⟩,fun e => (by omega),fun e => (by omega),fun e => (by omega),fun e => (by omega),fun e => (by omega),fun e => (by omega),fun e => (by omega)⟩
theorem NewV.mk20 {S A : Option Addr} {c d : Nat} {l : List StS} (h : X8 I F w S c l) (h2 : X12 I x F w A d) : NewV I x bs smb plb B F sP sM 20 (.agg #[.int .i64 x,.int .i64 I.c.wk,.int .i64 I.c.mi,.pointer (some ⟨bs,0,none⟩),.slice S I.m c,.pointer (some ⟨smb,0,none⟩),.pointer (some ⟨plb,0,none⟩),.slice A (I.mc x).pc.nb d,.int .i64 I.c.ra,.int .i64 I.c.mo,.int .i64 I.c.sh]) w :=
 ⟨fun e => (by omega),fun e => (by omega),fun _ => ⟨S,c,l,A,d,rfl,h,h2⟩,fun e => (by omega),fun e => (by omega),fun e => (by omega),fun e => (by omega),fun e => (by omega),fun e => (by omega)⟩
theorem NewV.mk23 : NewV I x bs smb plb B F sP sM 23 (.int .i64 I.P) w := ⟨fun e => (by omega),fun e => (by omega),fun e => (by omega),fun _ => rfl,fun e => (by omega),fun e => (by omega),fun e => (by omega),fun e => (by omega),fun e => (by omega)⟩
theorem NewV.mk24 {g : Nat} (h : X24 I B F w g) : NewV I x bs smb plb B F sP sM 24 (.slice (some ⟨g,0,none⟩) I.P I.P) w := ⟨fun e => (by omega),fun e => (by omega),fun e => (by omega),fun e => (by omega),fun _ => ⟨g,rfl,h⟩,fun e => (by omega),fun e => (by omega),fun e => (by omega),fun e => (by omega)⟩
theorem NewV.mk26 {y : StS} (h : X26 I F w y) : NewV I x bs smb plb B F sP sM 26 (.agg #[.slice y.1 I.P y.2.1,.slice y.2.2.1 I.P y.2.2.2]) w := ⟨fun e => (by omega),fun e => (by omega),fun e => (by omega),fun e => (by omega),fun e => (by omega),fun _ => ⟨y,rfl,h⟩,fun e => (by omega),fun e => (by omega),fun e => (by omega)⟩
theorem NewV.mk27 {g : Nat} {y : StS} (h : X27 I B F w g y) (h2 : X26 I F w y) : NewV I x bs smb plb B F sP sM 27 (.slice (some ⟨g,0,none⟩) 1 1) w := ⟨fun e => (by omega),fun e => (by omega),fun e => (by omega),fun e => (by omega),fun e => (by omega),fun e => (by omega),fun _ => ⟨g,y,rfl,h,h2⟩,fun e => (by omega),fun e => (by omega)⟩
theorem NewV.mk30 {A : Option Addr} {c : Nat} (h : X30 I x F w A c) : NewV I x bs smb plb B F sP sM 30 (.slice A (I.its x).length c) w := ⟨fun e => (by omega),fun e => (by omega),fun e => (by omega),fun e => (by omega),fun e => (by omega),fun e => (by omega),fun e => (by omega),fun _ => ⟨A,c,rfl,h⟩,fun e => (by omega)⟩
theorem NewV.mk31 {S A AI : Option Addr} {c d gg gr cI : Nat} {l : List StS} {y : StS} (h : X8 I F w S c l) (h2 : X12 I x F w A d) (h3 : X24 I B F w gg) (h4 : X26 I F w y) (h5 : X27 I B F w gr y) (h6 : X30 I x F w AI cI) : NewV I x bs smb plb B F sP sM 31 (.agg #[.int .i64 x,.int .i64 I.c.wk,.int .i64 I.c.mi,.pointer (some ⟨bs,0,none⟩),.slice S I.m c,.pointer (some ⟨smb,0,none⟩),.pointer (some ⟨plb,0,none⟩),.slice A (I.mc x).pc.nb d,.int .i64 I.c.ra,.int .i64 I.c.mo,.int .i64 I.c.sh,
  sP,sM,.slice (some ⟨gg,0,none⟩) I.P I.P,.slice (some ⟨gr,0,none⟩) 1 1,.slice AI (I.its x).length cI,.int .i64 0,.int .i64 0,.slice none 0 0]) w :=
 ⟨fun e => (by omega),fun e => (by omega),fun e => (by omega),fun e => (by omega),fun e => (by omega),fun e => (by omega),fun e => (by omega),fun e => (by omega),fun _ => ⟨S,c,l,A,d,gg,gr,y,AI,cI,rfl,h,h2,h3,h4,h5,h6⟩⟩
end
section
open Go.RowKit
theorem allIn_zeros (n : Nat) : AllIn (zeros n) := by
 intro x hx
 have := List.eq_of_mem_replicate hx
 subst this
 exact ⟨by decide,by decide⟩
abbrev newC (I : InC) (x bs smb plb gp cP gm cM : Nat) (S A AI : Option Addr) (c d gg gr cI : Nat) : Array Value := #[.int .i64 x,.int .i64 I.c.wk,.int .i64 I.c.mi,.pointer (some ⟨bs,0,none⟩),.slice S I.m c,.pointer (some ⟨smb,0,none⟩),.pointer (some ⟨plb,0,none⟩),.slice A (I.mc x).pc.nb d,.int .i64 I.c.ra,.int .i64 I.c.mo,.int .i64 I.c.sh,
  .slice (some ⟨gp,0,none⟩) I.P cP,.slice (some ⟨gm,0,none⟩) I.P cM,.slice (some ⟨gg,0,none⟩) I.P I.P,.slice (some ⟨gr,0,none⟩) 1 1,.slice AI (I.its x).length cI,.int .i64 0,.int .i64 0,.slice none 0 0]
theorem mnew_fin {I : InC} {x bs smb plb base : Nat} {gp cP gm cM lo hi : Nat} {F : Nat -> Prop} {w8 W : World} {S8 A8 AI : Option Addr} {c8 d8 g24 g27 cI : Nat} {l8 : List StS} {y : StS} (HK : (I.mc x).Ok) (HO : I.Ok)
  (h1 : Hg (fun i => lo <= i /\ i < hi) w8 (fun W => ShapeAt W base bs I.l I.n)) (h2 : Hg (fun i => lo <= i /\ i < hi) w8 (fun W => SmpAt W 0 smb I.c.ba.toNat I.c.st.toNat (I.m / I.c.ba.toNat) (cnt I.c.st.toNat (I.m / I.c.ba.toNat)) (blocksL (I.m / I.c.ba.toNat * I.c.ba.toNat) I.c.ba.toNat) (ordsL I.L I.m (cnt I.c.st.toNat (I.m / I.c.ba.toNat)))))
  (h3 : Hg (fun i => lo <= i /\ i < hi) w8 (fun W => PlanAt W plb (I.mc x).pc I.c I.A I.n I.cap)) (hi8 : hi <= w8.heap.size) (hlo : lo <= hi) (hF : ∀ i,i < w8.heap.size -> (F i ↔ (lo <= i /\ i < hi))) (hb : Below w8.heap.size w8 W)
  (hp : w8.ownsRow hi 2 1 (.slice (some ⟨gp,0,none⟩) I.P cP) I.P (iv I.P0)) (hq : w8.ownsRow hi 2 1 (.slice (some ⟨gm,0,none⟩) I.P cM) I.P (iv (zeros I.P))) (hpm : gp ≠ gm)
  (x8 : X8 I F W S8 c8 l8) (x12 : X12 I x F W A8 d8) (x24 : X24 I w8.heap.size F W g24) (x26 : X26 I F W y) (x27 : X27 I w8.heap.size F W g27 y) (x30 : X30 I x F W AI cI) :
  MachAt (fun i => lo <= i) (W.alloc (.cells (newC I x bs smb plb gp cP gm cM S8 A8 AI c8 d8 g24 g27 cI) 121)) W.heap.size (I.mc x) (startMS I x) := by
 have hN := HO.nums
 have hgp := hp.lt gp rfl
 have hgm := hq.lt gm rfl
 have hnF : ∀ g,hi <= g -> g < w8.heap.size -> ¬ F g := fun g a b e => by have := ((hF g b).1 e).2; omega
 have hba : Below W.heap.size W (W.alloc (.cells (newC I x bs smb plb gp cP gm cM S8 A8 AI c8 d8 g24 g27 cI) 121)) := (Below.refl _ _).alloc (Nat.le_refl _) _
 have m0 : ∀ {Q : World -> Prop},Hg (fun i => lo <= i /\ i < hi) w8 Q -> Hg (fun i => F i /\ i < W.heap.size) W Q := fun h => (h.below hb).mono (fun i hiW hi' => ⟨(hF i (by omega)).2 hi',hiW⟩)
 have m1 : ∀ {Q : World -> Prop},Hg F W Q -> Hg (fun i => F i /\ i < W.heap.size) W Q := fun h => h.mono (fun i hiW hi' => ⟨hi',hiW⟩)
 have hfz : Hg (fun i => F i /\ i < W.heap.size) W (fun V => FzAt V (I.mc x) (startMS I x) { base := base,bs := bs,S := S8,cS := c8,es := l8,smb := smb,plb := plb,A := I.A,nA := I.n,capA := I.cap,Ab := A8,cb := d8,gp := gp,cP := cP,gm := gm,cM := cM,gg := g24,cG := I.P,AR := some ⟨g27,0,none⟩,cR := 1,rs := [y],AI := AI,cI := cI,AO := none,cO := 0 }) := by
  refine Hg.imp ((((((m0 h1).and (m0 h2)).and (m0 h3)).and (m1 x8.2)).and (m1 x12)).and ((m1 x26).and (m1 x30))) ?_
  rintro V ⟨⟨⟨⟨⟨a1,a2⟩,a3⟩,a4⟩,a5⟩,a6,a7⟩
  exact ⟨a1,a4.1,x8.1,a4.2,a2,a3,a5,a7,rfl,a6⟩
 refine ⟨fun i => F i /\ i < W.heap.size,_,⟨?_,hfz.below hba,own_base ((own_below hp hb).alloc _) (Nat.zero_le _),own_base ((own_below hq hb).alloc _) (Nat.zero_le _),x24.2.2.alloc _,x27.2.2.alloc _,World.ownsRow_nil _ _ _ _,hpm,?_,?_,?_,fun i hi => ?_,HO.pi,allIn_zeros _,?_,Nat.zero_le _,?_,?_,?_⟩,fun i hi => ?_,fun i hi => ?_⟩
 ·have e1 : ((I.mc x).pc.m : Int) = I.c.wk := by show (I.c.wk.toNat : Int) = _; have := hN.wk; omega
  have e2 : ((I.mc x).pc.mi : Int) = I.c.mi := by show (I.c.mi.toNat : Int) = _; have := hN.mi; omega
  have := Blk.new W 121 (newC I x bs smb plb gp cP gm cM S8 A8 AI c8 d8 g24 g27 cI)
  have ec : machC (I.mc x) (startMS I x) { base := base,bs := bs,S := S8,cS := c8,es := l8,smb := smb,plb := plb,A := I.A,nA := I.n,capA := I.cap,Ab := A8,cb := d8,gp := gp,cP := cP,gm := gm,cM := cM,gg := g24,cG := I.P,AR := some ⟨g27,0,none⟩,cR := 1,rs := [y],AI := AI,cI := cI,AO := none,cO := 0 } = newC I x bs smb plb gp cP gm cM S8 A8 AI c8 d8 g24 g27 cI := by
   unfold machC newC
   rw [e1,e2]
   rfl
  rw [ec]
  exact this
 ·intro e
  have := x24.1
  have e' : gp = g24 := e
  omega
 ·intro e
  have := x24.1
  have e' : gm = g24 := e
  omega
 ·rintro i (hi | hi | hi | hi | hi | hi) ⟨hFi,hlt⟩
  ·have hi' : i = W.heap.size := hi
   omega
  ·have hi' : i = gp := hi
   rw [hi'] at hFi
   exact hnF gp hgp.1 hgp.2 hFi
  ·have hi' : i = gm := hi
   rw [hi'] at hFi
   exact hnF gm hgm.1 hgm.2 hFi
  ·have hi' : i = g24 := hi
   rw [hi'] at hFi
   exact x24.2.1 hFi
  ·have hi' : g27 = i := by simpa [blkOf,Value.ownBlock] using hi
   rw [<- hi'] at hFi
   exact x27.2.1 hFi
  ·simp [blkOf,Value.ownBlock] at hi
 ·exact Nat.lt_of_lt_of_le hi.2 hba.size
 ·show 1 <= 1000
  omega
 ·show (I.its x).length <= 200000000
  unfold InC.its PlC.stepI
  split
  ·exact PlC.itemsI_le HK.pcok _ _
  ·simp
 ·show 0 <= 1000000000000
  omega
 ·show 0 <= 1000000
  omega
 ·obtain ⟨hFi,hlt⟩ := hi
  by_cases h : i < w8.heap.size
  ·exact ((hF i h).1 hFi).1
  ·omega
 ·rcases hi with hi | hi | hi | hi | hi | hi
  ·have hi' : i = W.heap.size := hi
   have := hb.size
   omega
  ·have hi' : i = gp := hi
   omega
  ·have hi' : i = gm := hi
   omega
  ·have hi' : i = g24 := hi
   have := x24.1
   omega
  ·have hi' : g27 = i := by simpa [blkOf,Value.ownBlock] using hi
   have := x27.1
   omega
  ·simp [blkOf,Value.ownBlock] at hi
theorem MC.Ok.szleR {K : MC} (h : K.Ok) {k : Nat} (hk : k < K.n) : szN K.l k <= 1000 := by
 have hlt : k < K.l.length := by rw [h.len]; exact hk
 have := h.pos k _ (List.getElem?_eq_getElem hlt)
 unfold szN
 rw [List.getD_eq_getElem?_getD,List.getElem?_eq_getElem hlt]
 simp only [Option.getD_some]
 omega
def SerNewRet (I : InC) (w : World) (e : Ending) (w' : World) : Prop := ∃ rb a,e = .returned (.tuple #[.pointer (some ⟨rb,0,none⟩),.int .i64 0]) /\ SerIn w' rb I a /\ Below w.heap.size w w'
def SerV (I : InC) (bs smb base : Nat) (j : Nat) (v : Value) (w : World) : Prop :=
 (j = 3 -> ∃ S c es,v = .slice S I.m c /\ es.length = I.m /\ Rd w 2 S I.m (stv I.N I.M es) /\ RdS w I.N I.M es I.f) /\
 (j = 6 -> ∃ S c es,v = .agg #[.pointer (some ⟨bs,0,none⟩),.slice S I.m c,.pointer (some ⟨smb,0,none⟩),.int .i64 I.c.ra,.int .i64 I.c.mo,.int .i64 I.c.sh] /\ es.length = I.m /\ Rd w 2 S I.m (stv I.N I.M es) /\ RdS w I.N I.M es I.f) /\
 (j = 9 -> ∃ gp cP gm cM,v = .agg #[.slice (some ⟨gp,0,none⟩) I.P cP,.slice (some ⟨gm,0,none⟩) I.P cM] /\ Rd w 1 (some ⟨gp,0,none⟩) I.P (iv I.P0) /\ Rd w 1 (some ⟨gm,0,none⟩) I.P (iv (zeros I.P))) /\
 (j = 10 -> ∃ a : SA,v = .agg (serC I a) /\ a.bs = bs /\ a.smb = smb /\ a.base = base /\ a.es.length = I.m /\ Rd w 2 a.S I.m (stv I.N I.M a.es) /\ RdS w I.N I.M a.es I.f /\ Rd w 1 (some ⟨a.gp,0,none⟩) I.P (iv I.P0) /\ Rd w 1 (some ⟨a.gm,0,none⟩) I.P (iv (zeros I.P))) /\
 ((j = 11 \/ j = 12) -> ∃ (rb : Nat) (a : SA),v = .pointer (some ⟨rb,0,none⟩) /\ a.bs = bs /\ a.smb = smb /\ a.base = base /\ Blk w rb 108 (serC I a) /\ a.es.length = I.m /\ Rd w 2 a.S I.m (stv I.N I.M a.es) /\ RdS w I.N I.M a.es I.f /\ Rd w 1 (some ⟨a.gp,0,none⟩) I.P (iv I.P0) /\ Rd w 1 (some ⟨a.gm,0,none⟩) I.P (iv (zeros I.P))) /\
 (j = 13 -> v = .int .i64 0)
theorem SerV.below {I : InC} {bs smb base j : Nat} {v : Value} {w w' : World} (h : SerV I bs smb base j v w) (hb : Below w.heap.size w w') : SerV I bs smb base j v w' := by
 obtain ⟨h3,h6,h9,h10,h11,h13⟩ := h
 refine ⟨fun e => ?_,fun e => ?_,fun e => ?_,fun e => ?_,fun e => ?_,h13⟩
 ·obtain ⟨S,c,es,a1,a2,a3,a4⟩ := h3 e
  exact ⟨S,c,es,a1,a2,a3.below hb,a4.below hb⟩
 ·obtain ⟨S,c,es,a1,a2,a3,a4⟩ := h6 e
  exact ⟨S,c,es,a1,a2,a3.below hb,a4.below hb⟩
 ·obtain ⟨gp,cP,gm,cM,a1,a2,a3⟩ := h9 e
  exact ⟨gp,cP,gm,cM,a1,a2.below hb,a3.below hb⟩
 ·obtain ⟨a,b1,b2,b3,b4,b5,b6,b7,b8,b9⟩ := h10 e
  exact ⟨a,b1,b2,b3,b4,b5,b6.below hb,b7.below hb,b8.below hb,b9.below hb⟩
 ·obtain ⟨rb,a,b1,b2,b3,b4,b0,b5,b6,b7,b8,b9⟩ := h11 e
  exact ⟨rb,a,b1,b2,b3,b4,b0.kept hb,b5,b6.below hb,b7.below hb,b8.below hb,b9.below hb⟩
end
section
open Go.RowKit
variable {I : InC} {bs smb base : Nat} {w : World}
theorem SerV.v3 {S : Option Addr} {c : Nat} {es : List StS} (h1 : es.length = I.m) (h2 : Rd w 2 S I.m (stv I.N I.M es)) (h3 : RdS w I.N I.M es I.f) : SerV I bs smb base 3 (.slice S I.m c) w := ⟨fun _ => ⟨S,c,es,rfl,h1,h2,h3⟩,fun e => (by omega),fun e => (by omega),fun e => (by omega),fun e => (by omega),fun e => (by omega)⟩
theorem SerV.v6 {S : Option Addr} {c : Nat} {es : List StS} (h1 : es.length = I.m) (h2 : Rd w 2 S I.m (stv I.N I.M es)) (h3 : RdS w I.N I.M es I.f) : SerV I bs smb base 6 (.agg #[.pointer (some ⟨bs,0,none⟩),.slice S I.m c,.pointer (some ⟨smb,0,none⟩),.int .i64 I.c.ra,.int .i64 I.c.mo,.int .i64 I.c.sh]) w := ⟨fun e => (by omega),fun _ => ⟨S,c,es,rfl,h1,h2,h3⟩,fun e => (by omega),fun e => (by omega),fun e => (by omega),fun e => (by omega)⟩
theorem SerV.v9 {gp cP gm cM : Nat} (h1 : Rd w 1 (some ⟨gp,0,none⟩) I.P (iv I.P0)) (h2 : Rd w 1 (some ⟨gm,0,none⟩) I.P (iv (zeros I.P))) : SerV I bs smb base 9 (.agg #[.slice (some ⟨gp,0,none⟩) I.P cP,.slice (some ⟨gm,0,none⟩) I.P cM]) w := ⟨fun e => (by omega),fun e => (by omega),fun _ => ⟨gp,cP,gm,cM,rfl,h1,h2⟩,fun e => (by omega),fun e => (by omega),fun e => (by omega)⟩
theorem SerV.v10 {S : Option Addr} {c : Nat} {es : List StS} {gp cP gm cM : Nat} (h1 : es.length = I.m) (h2 : Rd w 2 S I.m (stv I.N I.M es)) (h3 : RdS w I.N I.M es I.f) (h4 : Rd w 1 (some ⟨gp,0,none⟩) I.P (iv I.P0)) (h5 : Rd w 1 (some ⟨gm,0,none⟩) I.P (iv (zeros I.P))) : SerV I bs smb base 10 (.agg (serC I ⟨base,bs,smb,S,c,es,gp,cP,gm,cM⟩)) w := ⟨fun e => (by omega),fun e => (by omega),fun e => (by omega),fun _ => ⟨⟨base,bs,smb,S,c,es,gp,cP,gm,cM⟩,rfl,rfl,rfl,rfl,h1,h2,h3,h4,h5⟩,fun e => (by omega),fun e => (by omega)⟩
theorem SerV.v11 {rb : Nat} {a : SA} {j : Nat} (hj : j = 11 \/ j = 12) (b2 : a.bs = bs) (b3 : a.smb = smb) (b4 : a.base = base) (b0 : Blk w rb 108 (serC I a)) (b5 : a.es.length = I.m) (b6 : Rd w 2 a.S I.m (stv I.N I.M a.es)) (b7 : RdS w I.N I.M a.es I.f) (b8 : Rd w 1 (some ⟨a.gp,0,none⟩) I.P (iv I.P0)) (b9 : Rd w 1 (some ⟨a.gm,0,none⟩) I.P (iv (zeros I.P))) : SerV I bs smb base j (.pointer (some ⟨rb,0,none⟩)) w := ⟨fun e => (by omega),fun e => (by omega),fun e => (by omega),fun e => (by omega),fun _ => ⟨rb,a,rfl,b2,b3,b4,b0,b5,b6,b7,b8,b9⟩,fun e => (by omega)⟩
theorem SerV.v13 : SerV I bs smb base 13 (.int .i64 0) w := ⟨fun e => (by omega),fun e => (by omega),fun e => (by omega),fun e => (by omega),fun e => (by omega),fun _ => rfl⟩
end
section
open Go.RowKit
theorem OwnS.toRdS {w : World} {B N M : Nat} {l : List StS} {f : Nat -> List Int × List Int} (h : OwnS w B N M l f) : RdS w N M l f := fun i s hs => ⟨Rd.of_own (h i s hs).1,Rd.of_own (h i s hs).2⟩
theorem serNew_any (I : InC) (w : World) (hI : InAt w I) (hO : I.Ok) :
  Calls Tryz.prog 10 #[inV I.A I.n I.cap I.c I.S I.m I.cS I.AP I.P I.cP I.AD I.D I.cD] w (SerNewRet I w) := by
 have hK := hO.mc (x := 0) (by have := hO.nums.wk; omega)
 have HN := hid hO.nums
 have HO := hid hO
 have HK := hid hK
 have m60 := hO.m60
 have hn16 : I.n <= 16 := hK.n16
 have hP60 := hO.P60
 have hD4 := hO.D4
 have HCI := hid (fun W (i : InAt W I) => confInput_any I.A I.n I.cap I.l I.c I.S I.m I.cS (exsOf I.N I.M I.es) I.AP I.P I.cP I.AD I.D I.cD W i.hl i.rl i.cap (by omega) (by rw [exsOf_length]; exact i.el) (by rw [exV_of]; exact i.re) (by omega) (by omega) (by omega))
 have HI := hid hI
 clear hI hO hK
 go_enter Tryz.func10,Tryz.ntmps10
 go_wp2_with fail
 obtain ⟨w1,hw1⟩ : ∃ w1,w.alloc (.cells (inC I.A I.n I.cap I.c I.S I.m I.cS I.AP I.P I.cP I.AD I.D I.cD) 29) = w1 := ⟨_,rfl⟩
 obtain ⟨gin,hgin⟩ : ∃ g,w.heap.size = g := ⟨_,rfl⟩
 have hb1 : Below w.heap.size w w1 := by rw [<- hw1]; exact (Below.refl _ _).alloc (Nat.le_refl _) _
 have hi1 : Blk w1 gin 29 (inC I.A I.n I.cap I.c I.S I.m I.cS I.AP I.P I.cP I.AD I.D I.cD) := by rw [<- hw1]; exact Blk.new' _ _ hgin
 have HW1 := hid hw1
 have HGI := hid hgin
 have HB1 := hid hb1
 have HI1 := hid hi1
 clear hw1 hgin hb1 hi1
 rw [HW1.out,HGI.out]
 ((with_reducible refine (HCI.out w1 (HI.out.below HB1.out)).mono ?_); rintro e w2 ⟨cd,rfl,hcd,hb2⟩)
 obtain rfl : cd = 0 := hcd.2 HO.out.ok
 have HB2 := hid (HB1.out.trans (hb2.mono HB1.out.size))
 have HI2 := hid (HI1.out.kept hb2)
 clear hcd hb2 HCI
 have c0 : w2.cell? ⟨gin,0,none⟩ = some (.slice I.A I.n I.cap) := HI2.out.cell 0
 have c1 : w2.cell? ⟨gin,1,none⟩ = some (.int .i64 I.c.sh) := HI2.out.cell 1
 have c2 : w2.cell? ⟨gin,2,none⟩ = some (.int .i64 I.c.ra) := HI2.out.cell 2
 have c3 : w2.cell? ⟨gin,3,none⟩ = some (.int .i64 I.c.mo) := HI2.out.cell 3
 have c4 : w2.cell? ⟨gin,4,none⟩ = some (.int .i64 I.c.wk) := HI2.out.cell 4
 have c5 : w2.cell? ⟨gin,5,none⟩ = some (.int .i64 I.c.ba) := HI2.out.cell 5
 have c6 : w2.cell? ⟨gin,6,none⟩ = some (.int .i64 I.c.mi) := HI2.out.cell 6
 have c7 : w2.cell? ⟨gin,7,none⟩ = some (.int .i64 I.c.st) := HI2.out.cell 7
 have c8 : w2.cell? ⟨gin,8,none⟩ = some (.int .i64 I.c.bu) := HI2.out.cell 8
 have c9 : w2.cell? ⟨gin,9,none⟩ = some (.int .i64 I.c.ch) := HI2.out.cell 9
 have c10 : w2.cell? ⟨gin,10,none⟩ = some (.int .i64 I.c.wi) := HI2.out.cell 10
 have c11 : w2.cell? ⟨gin,11,none⟩ = some (.int .i64 I.c.ca) := HI2.out.cell 11
 have c12 : w2.cell? ⟨gin,12,none⟩ = some (.slice I.S I.m I.cS) := HI2.out.cell 12
 have c13 : w2.cell? ⟨gin,13,none⟩ = some (.slice I.AP I.P I.cP) := HI2.out.cell 13
 have c14 : w2.cell? ⟨gin,14,none⟩ = some (.slice I.AD I.D I.cD) := HI2.out.cell 14
 have cl := HI2.out.lt
 go_wp2_with fail
 obtain ⟨w3,hw3⟩ : ∃ w3,w2.alloc (.cells (cfgC I.A I.n I.cap I.c) 24) = w3 := ⟨_,rfl⟩
 obtain ⟨gc,hgc⟩ : ∃ g,w2.heap.size = g := ⟨_,rfl⟩
 have hb3 : Below w2.heap.size w2 w3 := by rw [<- hw3]; exact (Below.refl _ _).alloc (Nat.le_refl _) _
 have hi3 : Blk w3 gc 24 (cfgC I.A I.n I.cap I.c) := by rw [<- hw3]; exact Blk.new' _ _ hgc
 have HW3 := hid hw3
 have HGC := hid hgc
 have HB3 := hid (HB2.out.trans (hb3.mono HB2.out.size))
 have HI3 := hid (HI2.out.kept hb3)
 have HC3 := hid hi3
 clear hw3 hgc hb3 hi3
 rw [HW3.out,HGC.out]
 have hs16 := sizesB_nums HN.out.sz
 rw [HO.out.hl] at hs16
 ((with_reducible refine (shapeMake_any I.A I.n I.cap I.l w3 HO.out.hl (HI.out.rl.below HB3.out) HI.out.cap hs16.1 hs16.2.1 hs16.2.2.1 HN.out.sz).mono ?_); rintro e w4 ⟨bs,rfl,hsh,hb4⟩)
 have HB4 := hid (HB3.out.trans (hb4.mono HB3.out.size))
 have HI4 := hid (HI3.out.kept hb4)
 have HC4 := hid (HC3.out.kept hb4)
 have HSH4 := hid hsh
 have HZ34 : Hid (w3.heap.size <= w4.heap.size) := hid hb4.size
 have HWN : Hid (w.heap.size <= w3.heap.size) := hid HB3.out.size
 clear hsh hb4 hs16
 have c12 : w4.cell? ⟨gin,12,none⟩ = some (.slice I.S I.m I.cS) := HI4.out.cell 12
 have c14 : w4.cell? ⟨gin,14,none⟩ = some (.slice I.AD I.D I.cD) := HI4.out.cell 14
 have d5 : w4.cell? ⟨gc,5,none⟩ = some (.int .i64 I.c.ba) := HC4.out.cell 5
 have d7 : w4.cell? ⟨gc,7,none⟩ = some (.int .i64 I.c.st) := HC4.out.cell 7
 have cl := HI4.out.lt
 have dl := HC4.out.lt
 have hba : (I.c.ba.toNat : Int) = I.c.ba := by have := HN.out.bw; have := HN.out.wk; omega
 have hst : (I.c.st.toNat : Int) = I.c.st := by have := HN.out.st; omega
 have HSM : Hid (Calls Tryz.prog 22 #[.int .i64 I.m,.int .i64 I.c.ba,.int .i64 I.c.st,.slice I.AD I.D I.cD] w4 (NewOut w4 I.c.ba.toNat I.c.st.toNat I.D I.m (I.m / I.c.ba.toNat) (cnt I.c.st.toNat (I.m / I.c.ba.toNat)) I.L)) := hid (by
  have := smpNew_any I.m I.c.ba.toNat I.c.st.toNat I.D I.cD (I.m / I.c.ba.toNat) (cnt I.c.st.toNat (I.m / I.c.ba.toNat)) I.AD I.L w4 (by have := HN.out.bw; have := HN.out.wk; omega) (by have := HN.out.ba; omega) m60 (by have := HO.out.st; omega) rfl rfl hD4 HO.out.dl (HI.out.rd.below HB4.out) HO.out.lu
  rw [hba,hst] at this
  exact this)
 clear hba hst
 go_wp2_with fail
 ((with_reducible refine HSM.out.mono ?_); rintro e w5 ⟨hb5,hsm⟩)
 have hsm' : ∃ smb,e = .returned (.tuple #[.pointer (some ⟨smb,0,none⟩),.int .i64 0]) /\ SmpAt w5 w4.heap.size smb I.c.ba.toNat I.c.st.toNat (I.m / I.c.ba.toNat) (cnt I.c.st.toNat (I.m / I.c.ba.toNat)) (blocksL (I.m / I.c.ba.toNat * I.c.ba.toNat) I.c.ba.toNat) (ordsL I.L I.m (cnt I.c.st.toNat (I.m / I.c.ba.toNat))) := by
  rcases hsm with ⟨-,smb,he,hs⟩ | ⟨hbad,-⟩
  ·exact ⟨smb,he,hs⟩
  ·have := HN.out.need
   unfold needN at this
   omega
 clear hsm
 obtain ⟨smb,rfl,hsm⟩ := hsm'
 have HB5 := hid (HB4.out.trans (hb5.mono HB4.out.size))
 have HI5 := hid (HI4.out.kept hb5)
 have HC5 := hid (HC4.out.kept hb5)
 have HSM5 := hid hsm
 have HB45 := hid hb5
 clear hb5 hsm HSM c12 c14 d5 d7 cl dl
 have d1 : w5.cell? ⟨gc,1,none⟩ = some (.int .i64 I.c.sh) := HC5.out.cell 1
 have d2 : w5.cell? ⟨gc,2,none⟩ = some (.int .i64 I.c.ra) := HC5.out.cell 2
 have d3 : w5.cell? ⟨gc,3,none⟩ = some (.int .i64 I.c.mo) := HC5.out.cell 3
 have dl := HC5.out.lt
 go_wp2_with fail
 obtain ⟨w6,hw6⟩ : ∃ w6,w5.alloc (.cells #[.int .i64 I.c.ra,.int .i64 I.c.mo,.int .i64 I.c.sh] 102) = w6 := ⟨_,rfl⟩
 obtain ⟨gr,hgr⟩ : ∃ g,w5.heap.size = g := ⟨_,rfl⟩
 have hb6 : Below w5.heap.size w5 w6 := by rw [<- hw6]; exact (Below.refl _ _).alloc (Nat.le_refl _) _
 have hr6 : Blk w6 gr 102 #[.int .i64 I.c.ra,.int .i64 I.c.mo,.int .i64 I.c.sh] := by rw [<- hw6]; exact Blk.new' _ _ hgr
 rw [hw6,hgr]
 have HB6 := hid (HB5.out.trans (hb6.mono HB5.out.size))
 have HI6 := hid (HI5.out.kept hb6)
 have HSH6 := hid ((HSH4.out.below HB45.out).below hb6)
 have r0 : w6.cell? ⟨gr,0,none⟩ = some (.int .i64 I.c.ra) := hr6.cell 0
 have r1 : w6.cell? ⟨gr,1,none⟩ = some (.int .i64 I.c.mo) := hr6.cell 1
 have r2 : w6.cell? ⟨gr,2,none⟩ = some (.int .i64 I.c.sh) := hr6.cell 2
 have rl := hr6.lt
 clear hw6 hgr hb6 hr6
 have c12 : w6.cell? ⟨gin,12,none⟩ = some (.slice I.S I.m I.cS) := HI6.out.cell 12
 have c13 : w6.cell? ⟨gin,13,none⟩ = some (.slice I.AP I.P I.cP) := HI6.out.cell 13
 have cl := HI6.out.lt
 go_wp2_with fail
 refine wp_region_posts (Kept w6) (SerV I bs smb w3.heap.size) (fun _ _ _ _ => True) [0,1,2,4,5,7,8] [3,6,9,10,11,12,13] [] (by kernel_rfl) (by kernel_rfl) (Kept.start w6) (fun _ _ _ _ h => h) (fun _ _ _ _ h hb => h.below hb) ?_
 simp only [List.filterMap_cons,List.filterMap_nil,List.getElem?_cons_succ,List.getElem?_cons_zero]
 refine early_step (.pointer (some ⟨bs,0,none⟩)) rfl (fun W hW => ?_) ?_
 ·obtain ⟨hc,-,-⟩ := hW
  go_simp
 go_simp
 refine early_step (.pointer (some ⟨gin,12,none⟩)) rfl (fun W hW => ?_) ?_
 ·obtain ⟨hc,-,-⟩ := hW
  go_simp
 go_simp
 refine early_step (.slice I.S I.m I.cS) rfl (fun W hW => ?_) ?_
 ·obtain ⟨hc,-,-⟩ := hW
  go_simp
 go_simp
 refine early_step (.pointer (some ⟨smb,0,none⟩)) rfl (fun W hW => ?_) ?_
 ·obtain ⟨hc,-,-⟩ := hW
  go_simp
 go_simp
 refine early_step (.agg #[.int .i64 I.c.ra,.int .i64 I.c.mo,.int .i64 I.c.sh]) rfl (fun W hW => ?_) ?_
 ·obtain ⟨hc,-,-⟩ := hW
  go_simp
 go_simp
 refine early_step (.pointer (some ⟨gin,13,none⟩)) rfl (fun W hW => ?_) ?_
 ·obtain ⟨hc,-,-⟩ := hW
  go_simp
 go_simp
 refine early_step (.slice I.AP I.P I.cP) rfl (fun W hW => ?_) ?_
 ·obtain ⟨hc,-,-⟩ := hW
  go_simp
 go_simp
 clear r0 r1 r2 rl c12 c13 cl
 refine PostsAt.mk ?_ ?_
 ·intro j8 hj8 o ho8 vs W hS hV
  simp only [List.mem_cons,List.not_mem_nil,or_false] at hj8
  have HS := hid hS
  have HV := hid hV
  have HBW := hid (HB6.out.trans (hS.2.2.mono HB6.out.size))
  clear hS hV
  rcases hj8 with rfl | rfl | rfl | rfl | rfl | rfl | rfl
  ·cases ho8
   unfold PostW
   simp only [puts,dstN,List.getElem?_toArray,List.getElem?_cons_succ,List.getElem?_cons_zero,Option.bind_some]
   change wpList _ _ _ (_ :: []) _ _
   go_wp2_with fail
   ((with_reducible refine (dataClone_any I.S I.m I.cS I.N I.M I.es I.f W HO.out.el (by omega) (HI.out.re.below HBW.out) (HI.out.rs.below HBW.out) (by rw [HO.out.hN]; have := HK.out.szleR (show 0 < (I.mc 0).n by have := HK.out.n2; omega); exact Nat.le_trans this (by omega)) (by rw [HO.out.hM]; have := HK.out.szleR (show (I.mc 0).n - 1 < (I.mc 0).n by have := HK.out.n2; omega); exact Nat.le_trans this (by omega)) HO.out.fl).mono ?_); rintro e w9 ⟨S9,c9,l9,hl9,rfl,ho9,hs9,hb9⟩)
   have HB9 := hid hb9
   have HL9 := hid hl9
   have HO9 := hid (Rd.of_own ho9)
   have HS9 := hid hs9.toRdS
   clear hl9 ho9 hs9 hb9
   go_wp2_with fail
   exact ⟨HS.out.call HB9.out,SerV.v3 HL9.out HO9.out HS9.out,HB9.out⟩
  ·obtain ⟨S9,c9,l9,v3,a1,a2,a3⟩ := (HV.out 3 (by simp) (by kernel_rfl)).1 rfl
   have H1 := hid a1
   have H2 := hid a2
   have H3 := hid a3
   cases ho8
   unfold PostW
   simp only [puts,dstN,List.getElem?_toArray,List.getElem?_cons_succ,List.getElem?_cons_zero,Option.bind_some]
   rw [v3]
   clear a1 a2 a3
   change wpList _ _ _ (_ :: []) _ _
   go_wp2_with fail
   exact ⟨HS.out,SerV.v6 H1.out H2.out H3.out,Below.refl _ _⟩
  ·cases ho8
   unfold PostW
   simp only [puts,dstN,List.getElem?_toArray,List.getElem?_cons_succ,List.getElem?_cons_zero,Option.bind_some]
   change wpList _ _ _ (_ :: []) _ _
   go_wp2_with fail
   ((with_reducible refine (sgdStart_any I.AP I.P I.cP I.P0 W HI.out.pl (HI.out.rp.below HBW.out) (by omega)).mono ?_); rintro e w7 ⟨AP,cP,AM,cM,rfl,hp7,hm7,hne7,hb7⟩)
   obtain ⟨gp,rfl⟩ := own_some hp7 (by have := HK.out.np1; exact this)
   obtain ⟨gm,rfl⟩ := own_some hm7 (by have := HK.out.np1; exact this)
   have HB9 := hid hb7
   have HP7 := hid (Rd.of_own hp7)
   have HM7 := hid (Rd.of_own hm7)
   clear hp7 hm7 hne7 hb7
   go_wp2_with fail
   exact ⟨HS.out.call HB9.out,SerV.v9 HP7.out HM7.out,HB9.out⟩
  ·obtain ⟨S9,c9,l9,v6,a1,a2,a3⟩ := (HV.out 6 (by simp) (by kernel_rfl)).2.1 rfl
   obtain ⟨gp,cP,gm,cM,v9,b1,b2⟩ := (HV.out 9 (by simp) (by kernel_rfl)).2.2.1 rfl
   have H1 := hid a1
   have H2 := hid a2
   have H3 := hid a3
   have H4 := hid b1
   have H5 := hid b2
   cases ho8
   unfold PostW
   simp only [puts,dstN,List.getElem?_toArray,List.getElem?_cons_succ,List.getElem?_cons_zero,Option.bind_some]
   rw [v6,v9]
   clear a1 a2 a3 b1 b2
   change wpList _ _ _ (_ :: []) _ _
   go_wp2_with fail
   exact ⟨HS.out,SerV.v10 (c := c9) (cP := cP) (cM := cM) H1.out H2.out H3.out H4.out H5.out,Below.refl _ _⟩
  ·obtain ⟨a,v10,b2,b3,b4,b5,b6,b7,b8,b9⟩ := (HV.out 10 (by simp) (by kernel_rfl)).2.2.2.1 rfl
   have HBB : Hid (Below W.heap.size W (W.alloc (.cells (serC I a) 108))) := hid ((Below.refl _ _).alloc (Nat.le_refl _) _)
   have H9 := hid (SerV.v11 (I := I) (bs := bs) (smb := smb) (base := w3.heap.size) (j := 11) (.inl rfl) b2 b3 b4 (Blk.new W 108 (serC I a)) b5 (b6.below HBB.out) (b7.below HBB.out) (b8.below HBB.out) (b9.below HBB.out))
   cases ho8
   unfold PostW
   simp only [puts,dstN,List.getElem?_toArray,List.getElem?_cons_succ,List.getElem?_cons_zero,Option.bind_some]
   rw [v10]
   clear b2 b3 b4 b5 b6 b7 b8 b9
   change wpList _ _ _ (_ :: []) _ _
   go_wp2_with fail
   exact ⟨HS.out.alloc _,H9.out,HBB.out⟩
  ·obtain ⟨rb,a,v11,b2,b3,b4,b0,b5,b6,b7,b8,b9⟩ := (HV.out 11 (by simp) (by kernel_rfl)).2.2.2.2.1 (.inl rfl)
   have H9 := hid (SerV.v11 (I := I) (bs := bs) (smb := smb) (base := w3.heap.size) (j := 12) (.inr rfl) b2 b3 b4 b0 b5 b6 b7 b8 b9)
   cases ho8
   unfold PostW
   simp only [puts,dstN,List.getElem?_toArray,List.getElem?_cons_succ,List.getElem?_cons_zero,Option.bind_some]
   rw [v11]
   clear b2 b3 b4 b0 b5 b6 b7 b8 b9
   change wpList _ _ _ (_ :: []) _ _
   go_wp2_with fail
   exact ⟨HS.out,H9.out,Below.refl _ _⟩
  ·cases ho8
   unfold PostW
   simp only [puts,dstN,List.getElem?_toArray,List.getElem?_cons_succ,List.getElem?_cons_zero,Option.bind_some]
   change wpList _ _ _ (_ :: []) _ _
   go_wp2_with fail
   exact ⟨HS.out,SerV.v13,Below.refl _ _⟩
 ·intro vs W hS hV hR
  obtain ⟨rb,a,v12,b2,b3,b4,b0,b5,b6,b7,b8,b9⟩ := (hV 12 (by simp)).2.2.2.2.1 (.inr rfl)
  have v13 := (hV 13 (by simp)).2.2.2.2.2 rfl
  simp only [puts,dstN,List.filterMap_cons,List.filterMap_nil,List.getElem?_toArray,List.getElem?_cons_succ,List.getElem?_cons_zero,Option.bind_some]
  rw [v12,v13]
  have HB9 := hid (HB6.out.trans (hS.2.2.mono HB6.out.size))
  have hsh := HSH6.out.below hS.2.2
  rw [<- b2,<- b4] at hsh
  have HSE : Hid (SerIn W rb I a) := hid ⟨b0,hsh,b5,b6,b7,b8,b9⟩
  clear hS hV hR v12 v13 b2 b4 b3 b0 b5 b6 b7 b8 b9 hsh
  unfold wpList
  refine NoPanic.normal ?_
  go_wp2_with fail
  go_ret2
  exact ⟨rb,a,rfl,HSE.out,HB9.out⟩
end
end Go.Proofs.YtkmaeipoaoikpaaGreat
