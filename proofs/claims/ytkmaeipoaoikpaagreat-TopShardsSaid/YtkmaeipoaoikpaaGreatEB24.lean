/- SmpNew2, SmpNew, SmpView. -/
import Derived.Test.YtkmaeipoaoikpaaGreatEB23
namespace Go.Proofs.YtkmaeipoaoikpaaGreat
set_option linter.all false
set_option maxRecDepth 100000
set_option maxHeartbeats 4000000
open Lib (hid)
section
open Go.RowKit
def ordsL (L : List Int) (n i : Nat) : List (List Int) := (List.range i).map fun j => pemL L n (j * (n - 1))
theorem ordsL_length (L : List Int) (n i : Nat) : (ordsL L n i).length = i := by simp [ordsL]
theorem ordsL_succ (L : List Int) (n i : Nat) : ordsL L n (i + 1) = ordsL L n i ++ [pemL L n (i * (n - 1))] := by simp [ordsL,List.range_succ]
theorem ordsL_get (L : List Int) (n i j : Nat) (h : j < i) : (ordsL L n i)[j]? = some (pemL L n (j * (n - 1))) := by simp [ordsL,h]
structure NewK where
 B0 : Nat
 B1 : Nat
 g0 : Nat
 gst : Nat
 gs : Nat
 bs : Nat
 sb : Nat
 n : Nat
 N : Nat
 cap : Nat
 q : Nat
 cb : Nat
 A : Option Addr
 Ab : Option Addr
 bt : Int
 st : Int
 L : List Int
 bl : List (Int × Int)
structure NewSt (K : NewK) (w : World) (i : Nat) : Prop where
 hn : Blk w K.g0 3 #[.int .i64 K.n]
 hg : Blk w K.gst 187 #[.pointer (some ⟨K.sb,0,none⟩)]
 hs : Blk w K.gs 71 #[.pointer (some ⟨K.bs,0,none⟩)]
 low : K.B0 <= K.bs /\ K.B0 <= K.sb /\ K.B0 <= K.B1 /\ K.bs < K.B1 /\ K.sb < K.B1
 stm : Stm w K.sb K.A K.N K.cap (i * (K.n - 1)) K.L
 far : ∀ b o,K.A = some ⟨b,o,none⟩ -> 0 < K.N -> b < K.B1 /\ b ≠ K.bs
 blk : ∃ Ao co vs,Blk w K.bs 186 (smpC K.bt K.st K.Ab K.q K.cb Ao i co) /\ w.ownsRow K.B1 22 1 (.slice Ao i co) i (slsv vs) /\ OwnN w K.B1 vs (ordsL K.L K.n i)
 rows : w.ownsRow K.B0 218 2 (.slice K.Ab K.q K.cb) K.q (rv K.bl)
 size : K.B1 <= w.heap.size
theorem own_b {w : World} {base : Nat} {e : TypeId} {size n : Nat} {v : Value} {xs : List Value} (h : w.ownsRow base e size v n xs) {g : Nat} (e' : v.ownBlock = some g) : base <= g := (h.lt g e').1
theorem NewSt.step {K : NewK} {w : World} {i : Nat} (h : NewSt K w i) (hn : K.n <= 1000) (hi : i <= 1000) (hN : (i + 1) * (K.n - 1) <= K.N) (hN2 : K.N <= 10000000) :
  Calls Tryz.prog 79 #[.pointer (some ⟨K.g0,0,none⟩),.pointer (some ⟨K.gst,0,none⟩),.pointer (some ⟨K.gs,0,none⟩)] w fun e w' => e = .returned (.bool true) /\ NewSt K w' (i + 1) /\ Below K.B0 w w' := by
 obtain ⟨Ao,co,vs,hb,ho,hon⟩ := h.blk
 obtain ⟨l1,l2,l3,l4,l5⟩ := h.low
 have hsz := h.size
 rw [Nat.succ_mul] at hN
 refine (newShuf_gen K.g0 K.gst K.gs K.sb K.bs K.N K.cap K.n (i * (K.n - 1)) i co K.cb K.q K.B1 K.A Ao K.Ab K.bt K.st vs w true (fun sl w' => sl.2.1 = K.n /\ w'.ownsRow w.heap.size 3 1 (.slice sl.1 sl.2.1 sl.2.2) sl.2.1 (iv (pemL K.L K.n (i * (K.n - 1)))) /\ Stm w' K.sb K.A K.N K.cap (i * (K.n - 1) + (K.n - 1)) K.L) h.hn h.hg h.hs hb ho h.stm.blk hi hsz ?_).mono ?_
 ·refine (shuffle_at K.sb K.N K.cap K.n (i * (K.n - 1)) K.A K.L w h.stm hn hN hN2).mono ?_
  rintro e w1 ⟨A1,c1,rfl,ho1,hg1,hs1⟩
  exact ⟨(A1,K.n,c1),rfl,⟨rfl,ho1,hs1⟩,hg1⟩
 ·rintro e w' ⟨rfl,w1,sl,Ao',co',⟨hl1,hr1,hs1⟩,hg1,hb',ho',hbut⟩
  have b1 := hb.grown hg1 (by simpa using hb.ne_ h.stm.blk (by decide))
  have o1 := ho.kept hg1 (.inr (own_blk_ne ho h.stm.blk (by decide)))
  have n1 := h.hn.grown hg1 (by simpa using h.hn.ne_ h.stm.blk (by decide))
  have g1 := h.hg.grown hg1 (by simpa using h.hg.ne_ h.stm.blk (by decide))
  have s1 := h.hs.grown hg1 (by simpa using h.hs.ne_ h.stm.blk (by decide))
  have r1 := h.rows.kept hg1 (.inr (own_blk_ne h.rows h.stm.blk (by decide)))
  have sz1 := hg1.size
  have hS' : Stm w' K.sb K.A K.N K.cap ((i + 1) * (K.n - 1)) K.L := by
   rw [Nat.succ_mul]
   refine ⟨hs1.blk.but hbut ?_,hs1.len,hN,hs1.rd.but hbut ?_,hs1.apart,hs1.inb⟩
   ·rintro (e | e)
    ·exact hs1.blk.ne_ b1 (by decide) e
    ·exact own_blk_ne o1 hs1.blk (by decide) e
   ·intro b o e h0 hS
    obtain ⟨f1,f2⟩ := h.far b o e h0
    rcases hS with e' | e'
    ·exact f2 e'
    ·have := own_b o1 e'; omega
  refine ⟨rfl,⟨n1.but hbut ?_,g1.but hbut ?_,s1.but hbut ?_,h.low,hS',h.far,⟨Ao',co',vs ++ [sl],hb',ho',?_⟩,own_but r1 hbut ?_,Nat.le_trans hsz (Nat.le_trans sz1 hbut.size)⟩,(below_gr (Below.refl _ _) (Nat.le_trans l3 hsz) hg1 l2).trans (hbut.below (Nat.le_trans l3 (Nat.le_trans hsz sz1)) ?_)⟩
  ·rintro (e | e)
   ·exact n1.ne_ b1 (by decide) e
   ·exact own_blk_ne o1 n1 (by decide) e
  ·rintro (e | e)
   ·exact g1.ne_ b1 (by decide) e
   ·exact own_blk_ne o1 g1 (by decide) e
  ·rintro (e | e)
   ·exact s1.ne_ b1 (by decide) e
   ·exact own_blk_ne o1 s1 (by decide) e
  ·rw [ordsL_succ]
   have hf : ∀ (v : Value) (m : Nat) (xs : List Value) (g : Nat),w1.ownsRow K.B1 3 1 v m xs -> v.ownBlock = some g -> ¬ (g = K.bs \/ (Value.slice Ao i co).ownBlock = some g) := by
    intro v m xs g hv e hS
    rcases hS with e' | e'
    ·exact own_blk_ne hv b1 (by decide) (e'.symm ▸ e)
    ·rcases own_ne_own hv o1 (by decide) with h2 | h2
     ·rw [e] at h2; cases h2
     ·exact h2 (e.trans e'.symm)
   have on1 : OwnN w1 K.B1 vs (ordsL K.L K.n i) := ⟨hon.len,fun j s l q1 q2 => ⟨(hon.row j s l q1 q2).1,(hon.row j s l q1 q2).2.kept hg1 (.inr (own_blk_ne (hon.row j s l q1 q2).2 h.stm.blk (by decide)))⟩⟩
   have hrb := own_base hr1 hsz
   exact (on1.but hbut hf).snoc (by rw [hl1,pemL_length]) (own_but hrb hbut (fun g e => hf _ _ _ g hrb e))
  ·intro g e hS
   rcases hS with e' | e'
   ·exact own_blk_ne r1 b1 (by decide) (e'.symm ▸ e)
   ·rcases own_ne_own r1 o1 (by decide) with h2 | h2
    ·rw [e] at h2; cases h2
    ·exact h2 (e.trans e'.symm)
  ·rintro g (e | e)
   ·omega
   ·have := own_b o1 e; omega
theorem NewSt.short {K : NewK} {w : World} {i : Nat} (h : NewSt K w i) (hn : K.n <= 1000) (hi : i <= 1000) (hN : K.N < (i + 1) * (K.n - 1)) (hN2 : K.N <= 10000000) :
  Calls Tryz.prog 79 #[.pointer (some ⟨K.g0,0,none⟩),.pointer (some ⟨K.gst,0,none⟩),.pointer (some ⟨K.gs,0,none⟩)] w fun e w' => e = .returned (.bool false) /\ Below K.B0 w w' := by
 obtain ⟨Ao,co,vs,hb,ho,hon⟩ := h.blk
 obtain ⟨l1,l2,l3,l4,l5⟩ := h.low
 have hsz := h.size
 rw [Nat.succ_mul] at hN
 refine (newShuf_gen K.g0 K.gst K.gs K.sb K.bs K.N K.cap K.n (i * (K.n - 1)) i co K.cb K.q K.B1 K.A Ao K.Ab K.bt K.st vs w false (fun sl w' => True) h.hn h.hg h.hs hb ho h.stm.blk hi hsz ?_).mono ?_
 ·refine (shuffle_short K.sb K.N K.cap K.n (i * (K.n - 1)) K.A K.L w h.stm hn (by have h9 := hN; have h8 := h.stm.le; generalize i * (K.n - 1) = p at h8 h9 ⊢; omega) hN2).mono ?_
  rintro e w1 ⟨rfl,hg1⟩
  exact ⟨(none,0,0),rfl,trivial,hg1⟩
 ·rintro e w' ⟨rfl,w1,sl,Ao',co',_,hg1,hb',ho',hbut⟩
  have o1 := ho.kept hg1 (.inr (own_blk_ne ho h.stm.blk (by decide)))
  have sz1 := hg1.size
  refine ⟨rfl,(below_gr (Below.refl _ _) (Nat.le_trans l3 hsz) hg1 l2).trans (hbut.below (Nat.le_trans l3 (Nat.le_trans hsz sz1)) ?_)⟩
  rintro g (e | e)
  ·omega
  ·have := own_b o1 e; omega
structure SmpAt (w : World) (base bs : Nat) (bt st : Int) (q E : Nat) (bl : List (Int × Int)) (os : List (List Int)) : Prop where
 low : base <= bs
 ex : ∃ Ab cb Ao co vs,Blk w bs 186 (smpC bt st Ab q cb Ao E co) /\ w.ownsRow base 218 2 (.slice Ab q cb) q (rv bl) /\ w.ownsRow base 22 1 (.slice Ao E co) E (slsv vs) /\ OwnN w base vs os
theorem SmpAt.below {w w' : World} {base bs : Nat} {bt st : Int} {q E : Nat} {bl : List (Int × Int)} {os : List (List Int)} (h : SmpAt w base bs bt st q E bl os) (hb : Below w.heap.size w w') : SmpAt w' base bs bt st q E bl os := by
 obtain ⟨h0,Ab,cb,Ao,co,vs,h1,h2,h3,h4⟩ := h
 exact ⟨h0,Ab,cb,Ao,co,vs,h1.kept hb,own_below h2 hb,own_below h3 hb,h4.below hb⟩
theorem SmpAt.base {w : World} {base base' bs : Nat} {bt st : Int} {q E : Nat} {bl : List (Int × Int)} {os : List (List Int)} (h : SmpAt w base bs bt st q E bl os) (hb : base' <= base) : SmpAt w base' bs bt st q E bl os := by
 obtain ⟨h0,Ab,cb,Ao,co,vs,h1,h2,h3,h4⟩ := h
 exact ⟨Nat.le_trans hb h0,Ab,cb,Ao,co,vs,h1,own_base h2 hb,own_base h3 hb,h4.base hb⟩
def NewOut (w : World) (b st N n q E : Nat) (L : List Int) (e : Ending) (w' : World) : Prop :=
 Below w.heap.size w w' /\ ((E * (n - 1) <= N /\ ∃ bs,e = .returned (.tuple #[.pointer (some ⟨bs,0,none⟩),.int .i64 0]) /\ SmpAt w' w.heap.size bs b st q E (blocksL (q * b) b) (ordsL L n E)) \/ (N < E * (n - 1) /\ e = .returned (.tuple #[.pointer none,.int .i64 8])))
theorem store_old {w : World} {g : Nat} {t : TypeId} {x : Value} (h : Blk w g t #[x]) (v : Value) : w.grownBy (w.setCell ⟨g,0,none⟩ v) (some g) /\ Blk (w.setCell ⟨g,0,none⟩ v) g t #[v] :=
 ⟨gr_set (p := ⟨g,0,none⟩) (World.grownBy.refl w _) (.inl rfl) v,by simpa using h.set_ 0 v⟩
theorem store_new (w : World) (cs : Array Value) (t u : TypeId) (x v : Value) :
  ((w.alloc (.cells #[x] u)).alloc (.cells cs t)).grownBy (((w.alloc (.cells #[x] u)).alloc (.cells cs t)).setCell ⟨w.heap.size,0,none⟩ v) (some w.heap.size) /\
  Blk (((w.alloc (.cells #[x] u)).alloc (.cells cs t)).setCell ⟨w.heap.size,0,none⟩ v) w.heap.size u #[v] :=
 store_old ((Blk.new w u #[x]).alloc _) v
end
section
open Go.RowKit
variable (n b st N cap q E : Nat) (A : Option Addr) (L : List Int) (w : World)
theorem smpNew_any (hb1 : 1 <= b) (hbn : b <= n) (hn : n <= 60) (hst : st <= 60) (hq : n / b = q) (hE : cnt st q = E) (hN2 : N <= 4000) (hl : L.length = N) (h : Rd w 1 A N (uv L)) (hu : InU L) :
  Calls Tryz.prog 22 #[.int .i64 n,.int .i64 b,.int .i64 st,.slice A N cap] w (NewOut w b st N n q E L) := by
 have e1 : decide ((n : Int) < 1) = false := decide_eq_false (by omega)
 have e2 : decide ((1048576 : Int) < (n : Int)) = false := decide_eq_false (by omega)
 have e3 : decide ((st : Int) < 0) = false := decide_eq_false (by omega)
 have e4 : decide ((1048576 : Int) < (st : Int)) = false := decide_eq_false (by omega)
 have e5 : decide ((b : Int) < 1) = false := decide_eq_false (by omega)
 have e6 : decide (n < b) = false := decide_eq_false (by omega)
 have HR := hid h
 have HL := hid hl
 have HU := hid hu
 have HQ := hid hq
 have HE := hid hE
 clear h hl hu hq hE
 go_enter Tryz.func22,Tryz.ntmps22
 go_wp2_with fail
 have HMA : Hid (Below w.heap.size w (w.alloc (.cells #[.int .i64 (n : Int)] 3)) /\ Blk (w.alloc (.cells #[.int .i64 (n : Int)] 3)) w.heap.size 3 #[.int .i64 n]) := hid ⟨(Below.refl _ _).alloc (Nat.le_refl _) _,Blk.new _ _ _⟩
 obtain ⟨g0,hg0⟩ : ∃ g0,w.heap.size = g0 := ⟨_,rfl⟩
 have HG0 := hid hg0
 rw [hg0] at HMA ⊢
 obtain ⟨w0,hw0⟩ : ∃ w0,w.alloc (.cells #[.int .i64 (n : Int)] 3) = w0 := ⟨_,rfl⟩
 rw [hw0] at HMA ⊢
 clear hw0 hg0
 have c0 : w0.cell? ⟨g0,0,none⟩ = some (.int .i64 n) := HMA.out.2.cell 0
 have l0 := HMA.out.2.lt
 have hdm : b * q + n % b = n := by have := Nat.div_add_mod n b; rw [HQ.out] at this; exact this
 have hmlt : n % b < b := Nat.mod_lt _ hb1
 have hq1 : 1 <= q := by rw [<- HQ.out]; exact (Nat.one_le_div_iff (by omega)).2 hbn
 have hq60 : q <= 60 := by rw [<- HQ.out]; exact Nat.le_trans (Nat.div_le_self n b) hn
 have hE60 : E <= 60 := by rw [<- HE.out]; exact Nat.le_trans (cnt_le st q) hst
 have hqn : q * b <= n := by rw [Nat.mul_comm]; omega
 have hw : IntKind.i64.wrap ((n : Int) - (n : Int) % (b : Int)) = ((q * b : Nat) : Int) := by
  have h1 : (n : Int) - (n : Int) % (b : Int) = ((q * b : Nat) : Int) := by
   rw [<- Int.natCast_emod,Nat.mul_comm q b]
   omega
  rw [h1,IntKind.wrap_i64]
  omega
 have hcq : cnt (q * b) b = q := by
  rw [cnt_pos (q * b) b (Nat.mul_pos hq1 hb1) hb1]
  obtain ⟨q',rfl⟩ : ∃ q',q = q' + 1 := ⟨q - 1,by omega⟩
  have h1 : (q' + 1) * b - 1 = q' * b + (b - 1) := by rw [Nat.succ_mul]; omega
  have h2 : (q' * b + (b - 1)) / b = q' := by
   rw [Nat.add_comm,Nat.add_mul_div_right _ _ (by omega),Nat.div_eq_of_lt (by omega)]
   omega
  rw [h1,h2]
 have HBL := hid (fun W => (by have h := blocks_any (q * b) b W (Nat.mul_pos hq1 hb1) (by omega) hb1 (by omega); rw [hcq] at h; exact h : Calls Tryz.prog 77 #[.int .i64 ((q * b : Nat) : Int),.int .i64 b] W (OwnRet W 218 2 q (rv (blocksL (q * b) b)))))
 obtain ⟨qb,hqb⟩ : ∃ qb,q * b = qb := ⟨_,rfl⟩
 rw [hqb] at hw HBL hqn
 have HQB := hid hqb
 obtain ⟨bl,hbl⟩ : ∃ bl,blocksL qb b = bl := ⟨_,rfl⟩
 rw [hbl] at HBL
 have HBLL := hid hbl
 clear hqb hbl hdm hmlt hcq
 obtain ⟨d,hd⟩ : ∃ d,n % b = d := ⟨_,rfl⟩
 have hri : (n : Int).tmod (b : Int) = (d : Int) := by rw [<- hd]; rfl
 have hri2 : (n : Int) % (b : Int) = (d : Int) := by rw [<- hd]; rfl
 have zn : ¬ b = 0 := by omega
 rw [hri2] at hw
 clear hd hri2
 have ks0 : Kept w0 (w0.alloc (.cells #[.pointer none] 71)).drew := ((Kept.of (Below.refl _ w0)).alloc _).drew
 go_cut [10] (fun s10 wc => ∃ (gs bs cb : Nat) (Ab : Option Addr),s10 = .pointer (some ⟨gs,0,none⟩) /\ w0.heap.size <= gs /\ w0.heap.size <= bs /\ Kept w0 wc /\ Blk wc gs 71 #[.pointer (some ⟨bs,0,none⟩)] /\ Blk wc bs 186 (smpC b st Ab q cb none 0 0) /\ wc.ownsRow w0.heap.size 218 2 (.slice Ab q cb) q (rv bl))
 case first =>
  go_region_held3 (fun w' => Kept w0 w') (first | exact kk | exact kk.alloc _ | exact (kk.alloc _).alloc _ | exact kst | exact ks0 | exact Kept.start w0) (first
   | (go_at_call 77; (with_reducible refine (HBL.out w0.drew).mono ?_); rintro e w1 ⟨Ab,cb,rfl,hO,hb⟩; have kk := (Kept.start w0).call hb; have HOB := hid hO; have v0 := (Blk.new w1 71 #[.pointer none]).cell 0; have v1 := (Blk.new w1 71 #[.pointer none]).frozen 0; have v2 := (Blk.new w1 71 #[.pointer none]).lt; have HSE := hid (store_new w1 (smpC b st Ab q cb none 0 0) 186 71 (.pointer none) (.pointer (some ⟨w1.heap.size + 1,0,none⟩))); have kst := Kept.of (below_gr ((kk.alloc (.cells #[.pointer none] 71)).alloc (.cells (smpC b st Ab q cb none 0 0) 186)).2.2 ((kk.alloc (.cells #[.pointer none] 71)).alloc (.cells (smpC b st Ab q cb none 0 0) 186)).2.1 HSE.out.1 kk.2.1); clear hO hb)
   | (go_at_call 77; (with_reducible refine (HBL.out (w0.alloc (.cells #[.pointer none] 71)).drew).mono ?_); rintro e w1 ⟨Ab,cb,rfl,hO,hb⟩; have kk := ks0.call hb; have HB1 := hid ((Blk.new w0 71 #[.pointer none]).drew.kept hb); have hu := Nat.le_refl w0.heap.size; have HOB := hid hO; have v0 := HB1.out.cell 0; have v1 := HB1.out.frozen 0; have v2 := HB1.out.lt; have HSE := hid (store_old HB1.out (.pointer (some ⟨w1.heap.size,0,none⟩))); have kst := (Kept.of (below_gr kk.2.2 kk.2.1 HSE.out.1 hu)).alloc (.cells (smpC b st Ab q cb none 0 0) 186); clear hO hb))
  all_goals go_wp2_with fail
  all_goals go_meet
  all_goals first
   | exact ⟨w1.heap.size + 1,w1.heap.size,cb,Ab,rfl,Nat.le_succ_of_le kk.2.1,kk.2.1,(kk.alloc _).alloc _,Blk.new' _ _ (by simp),(Blk.new w1 _ _).alloc _,(HOB.out.alloc _).alloc _⟩
   | exact ⟨w1.heap.size,w1.heap.size + 1,cb,Ab,rfl,kk.2.1,Nat.le_succ_of_le kk.2.1,(kk.alloc _).alloc _,(Blk.new w1 _ _).alloc _,Blk.new' _ _ (by simp),(HOB.out.alloc _).alloc _⟩
   | exact ⟨w0.heap.size,w1.heap.size,cb,Ab,rfl,Nat.le_refl _,kk.2.1,kst,HSE.out.2.alloc _,Blk.new' _ _ (by simp [World.setCell]),own_base ((HOB.out.kept HSE.out.1 (.inr (own_blk_ne HOB.out HB1.out (by decide)))).alloc _) (by simp)⟩
 case rest =>
  rename World => wq
  obtain ⟨gs,bs,cb,Ab,rfl,hgs,hbs,kk,hbg,hbb,hob⟩ := hcut
  have hBq : Below w.heap.size w wq := by
   have h1 := HMA.out.1
   rw [<- HG0.out] at h1
   exact h1.trans (kk.2.2.mono h1.size)
  have HBQ := hid hBq
  have HN0 := hid (HMA.out.2.kept kk.2.2)
  have HS1 := hid hbg
  have HB1 := hid hbb
  have HO1 := hid hob
  have hw0 : w.heap.size <= w0.heap.size := HMA.out.1.size
  clear kk hbg hbb hob hBq c0 l0 ks0 HBL
  go_wp2_with fail
  ((with_reducible refine (drawNew_any A N cap L wq HL.out (HR.out.below HBQ.out) (by omega) HU.out).mono ?_); rintro e w2 ⟨sb,A2,cap2,rfl,hst2,hsb,hA2,hb2⟩)
  have HST := hid hst2
  have HB2 := hid hb2
  have HX1 := hid (HN0.out.kept hb2)
  have HX2 := hid (HS1.out.kept hb2)
  have HX3 := hid (HB1.out.kept hb2)
  have HX4 := hid (own_below HO1.out hb2)
  have d0 : w2.cell? ⟨gs,0,none⟩ = some (.pointer (some ⟨bs,0,none⟩)) := HX2.out.cell 0
  have d1 : w2.cell? ⟨bs,2,none⟩ = some (.slice Ab q cb) := HX3.out.cell 2
  have d2 := HX2.out.lt
  have d3 := HX3.out.lt
  have hbsq := HB1.out.lt
  clear hst2 hb2
  have HCNT := hid (fun W => (by have h := count_nat st q W (by omega) (by omega); rw [HE.out] at h; exact h : Calls Tryz.prog 81 #[.int .i64 st,.int .i64 q] W fun e w' => e = .returned (.int .i64 (E : Nat)) /\ W = w'))
  have h3 : Below w2.heap.size w2 (w2.alloc (.cells #[.pointer (some ⟨sb,0,none⟩)] 187)) := (Below.refl _ _).alloc (Nat.le_refl _) _
  have hg3 : Blk (w2.alloc (.cells #[.pointer (some ⟨sb,0,none⟩)] 187)) w2.heap.size 187 #[.pointer (some ⟨sb,0,none⟩)] := Blk.new _ _ _
  have hs3 : (w2.alloc (.cells #[.pointer (some ⟨sb,0,none⟩)] 187)).heap.size = w2.heap.size + 1 := by simp
  have H3 := hid (And.intro h3 (And.intro hg3 hs3))
  clear h3 hg3 hs3
  go_wp2_with fail
  ((with_reducible refine (HCNT.out _).mono ?_); rintro e w9 ⟨rfl,rfl⟩)
  obtain ⟨w3,hw3⟩ : ∃ w3,w2.alloc (.cells #[.pointer (some ⟨sb,0,none⟩)] 187) = w3 := ⟨_,rfl⟩
  rw [hw3] at H3 ⊢
  clear hw3 d0 d1 d2 d3
  obtain ⟨gt,hgt⟩ : ∃ gt,w2.heap.size = gt := ⟨_,rfl⟩
  have hsb2 : sb < w2.heap.size := HST.out.blk.lt
  have hgs2 : gs < w2.heap.size := HX2.out.lt
  have hbs2 : bs < w2.heap.size := HX3.out.lt
  have HAL := hid (fun b o (e : A2 = some ⟨b,o,none⟩) (h0 : 0 < N) => (⟨HST.out.rd.lt b o e h0,hA2 b o e⟩ : b < w2.heap.size /\ wq.heap.size <= b))
  have HIN : Hid (NewSt ⟨g0,w3.heap.size,g0,gt,gs,bs,sb,n,N,cap2,q,cb,A2,Ab,b,st,L,bl⟩ w3 0) := hid (by
   have hz := H3.out.2.2
   have hB := H3.out.1
   have hwq := HBQ.out.size
   have hg := H3.out.2.1
   rw [hgt] at hg
   exact ⟨HX1.out.kept hB,hg,HX2.out.kept hB,(by
    show g0 <= bs /\ g0 <= sb /\ g0 <= w3.heap.size /\ bs < w3.heap.size /\ sb < w3.heap.size
    have := HG0.out
    omega),by
     show Stm w3 sb A2 N cap2 (0 * (n - 1)) L
     rw [Nat.zero_mul]
     exact HST.out.kept hB,fun b' o e h0 => by
      have := HAL.out b' o e h0
      show b' < w3.heap.size /\ b' ≠ bs
      omega,⟨none,0,[],HX3.out.kept hB,World.ownsRow_nil _ _ _ _,OwnN.nil _ _⟩,own_base (own_below HX4.out hB) (by have := HG0.out; show g0 <= w0.heap.size; omega),Nat.le_refl _⟩)
  have HB3 : Hid (Below w.heap.size w w3) := hid (((Kept.of HBQ.out).call HB2.out).call H3.out.1).2.2
  have HSOME := hid (fun j wr (h : NewSt ⟨g0,w3.heap.size,g0,gt,gs,bs,sb,n,N,cap2,q,cb,A2,Ab,b,st,L,bl⟩ wr j) (hj : j <= 1000) (hN : (j + 1) * (n - 1) <= N) => h.step (by show n <= 1000; omega) hj hN (by show N <= 10000000; omega))
  have HSHRT := hid (fun j wr (h : NewSt ⟨g0,w3.heap.size,g0,gt,gs,bs,sb,n,N,cap2,q,cb,A2,Ab,b,st,L,bl⟩ wr j) (hj : j <= 1000) (hN : N < (j + 1) * (n - 1)) => h.short (by show n <= 1000; omega) hj hN (by show N <= 10000000; omega))
  rw [hgt]
  clear HX1 HX2 HX3 HX4 HST HAL hA2 HCNT HN0 HS1 HB1 HO1 HMA H3 hw HBQ HB2
  go_wp2_with fail
  go_loopw [57] (fun c wr => ∃ j : Nat,j <= E /\ c = .int .i64 j /\ NewSt ⟨g0,w3.heap.size,g0,gt,gs,bs,sb,n,N,cap2,q,cb,A2,Ab,b,st,L,bl⟩ wr j /\ Below w.heap.size w wr) (fun c _ => E - (intOf c).toNat)
  case atStart => exact ⟨0,by omega,rfl,HIN.out,HB3.out⟩
  case round =>
   obtain ⟨j,hj,rfl,hs,hb⟩ := hrel
   have HB := hid hb
   have HSS := hid hs
   have r1 : wr.cell? ⟨gs,0,none⟩ = some (.pointer (some ⟨bs,0,none⟩)) := hs.hs.cell 0
   have r2 := hs.hs.lt
   clear hs hb
   by_cases hlt : j < E
   ·by_cases hfit : (j + 1) * (n - 1) <= N
    ·have C := hid (HSOME.out j wr HSS.out (by omega) hfit)
     have HF := hid hfit
     clear hfit
     go_wp2_with fail
     ((with_reducible refine C.out.mono ?_); rintro e w5 ⟨rfl,hs5,hb5⟩)
     have HS5 := hid hs5
     have HB5 := hid (HB.out.trans (by rw [HG0.out]; exact hb5))
     clear hs5 hb5
     go_wp2_with fail
     go_roundw
     case rel => exact ⟨j + 1,by omega,by go_num,HS5.out,HB5.out⟩
     case measure => simp [intOf]; omega
    ·have C := hid (HSHRT.out j wr HSS.out (by omega) (by omega))
     have HF := hid (Nat.lt_of_lt_of_le (Nat.lt_of_not_le hfit) (Nat.mul_le_mul_right (n - 1) hlt))
     clear hfit
     go_wp2_with fail
     ((with_reducible refine C.out.mono ?_); rintro e w5 ⟨rfl,hb5⟩)
     have HB5 := hid (HB.out.trans (by rw [HG0.out]; exact hb5))
     clear hb5
     go_wp2_with fail
     go_ret2
     exact ⟨HB5.out,.inr ⟨HF.out,rfl⟩⟩
   ·obtain rfl : j = E := by omega
    go_wp2_with fail
    go_ret2
    obtain ⟨Ao,co,vs,q1,q2,q3⟩ := HSS.out.blk
    refine ⟨HB.out,.inl ⟨HSS.out.stm.le,bs,rfl,?_⟩⟩
    rw [HQB.out,HBLL.out]
    have hl1 := HSS.out.low
    have hgg := HG0.out
    exact ⟨by rw [hgg]; exact hl1.1,Ab,cb,Ao,co,vs,q1,own_base HSS.out.rows (by rw [hgg]; exact Nat.le_refl _),own_base q2 (by rw [hgg]; exact hl1.2.2.1),q3.base (by rw [hgg]; exact hl1.2.2.1)⟩
end
section
open Go.RowKit
def RdRet (w : World) (m : Nat) (l : List Int) (e : Ending) (w' : World) : Prop :=
 ∃ A c,e = .returned (.slice A m c) /\ m <= c /\ Rd w' 1 A m (iv l) /\ Below w.heap.size w w'
theorem RdRet.none (w w' : World) (hb : Below w.heap.size w w') : RdRet w 0 [] (.returned (.slice .none 0 0)) w' := ⟨_,_,rfl,Nat.le_refl _,Rd.nil _ _ _,hb⟩
theorem rd_map {w : World} {A : Option Addr} {N : Nat} {l : List Int} (h : Rd w 1 A N (iv l)) (hl : l.length = N) (lo n : Nat) (hfit : lo + n <= N) : Rd w 1 (A.map (fun x => x.add lo)) n (iv ((l.drop lo).take n)) := by
 refine ⟨by simp [iv]; omega,fun h0 => ?_⟩
 obtain ⟨b,o,rfl,hlt,hcell⟩ := h.2 (by omega)
 refine ⟨b,o + lo,by rw [Option.map_some]; congr 1; unfold Addr.add; by_cases hj : lo = 0 <;> simp [hj],hlt,fun j u hu => ?_⟩
 rw [iv,List.getElem?_map,List.getElem?_take] at hu
 split at hu
 ·rw [List.getElem?_drop] at hu
  rw [Nat.add_assoc]
  exact hcell (lo + j) u (by rw [iv,List.getElem?_map]; exact hu)
 ·cases hu
theorem rd_zero (w : World) (A : Option Addr) (l : List Int) (lo : Nat) : Rd w 1 A 0 (iv ((l.drop lo).take 0)) := by simpa [iv] using Rd.nil w 1 A
def pieceL (l : List Int) (i k : Int) : List Int := if 0 <= i /\ i < k then (l.drop (bnd l.length k.toNat i.toNat)).take (bnd l.length k.toNat (i.toNat + 1) - bnd l.length k.toNat i.toNat) else []
end
section
open Go.RowKit
variable (A : Option Addr) (n c : Nat) (l : List Int) (i k : Int) (w : World)
theorem piece_any (hl : l.length = n) (h : Rd w 1 A n (iv l)) (hn : n <= 1000) (hc : n <= c) (hk : k <= 1000) (hk0 : -1000 <= k) (hi : i <= 1000) (hi0 : -1000 <= i) :
  Calls Tryz.prog 88 #[.slice A n c,.int .i64 i,.int .i64 k] w (RdRet w (pieceL l i k).length (pieceL l i k)) := by
 have HR := hid h
 have HL := hid hl
 clear h hl
 by_cases hk1 : k < 1
 ·have HE := hid (even_none n k w (.inr hk1))
  have hp : pieceL l i k = [] := by rw [pieceL,if_neg (by omega)]
  rw [hp]
  clear hp
  by_cases hi1 : i < 0
  ·have e1 : decide (i < 0) = true := decide_eq_true hi1
   go_enter Tryz.func88,Tryz.ntmps88
   go_wp2_with fail
   ((with_reducible refine HE.out.mono ?_); rintro e w1 ⟨A1,c1,rfl,hown,hb⟩)
   go_wp2_with fail
   go_ret
   exact RdRet.none _ _ hb
  ·have e1 : decide (i < 0) = false := decide_eq_false hi1
   have e2 : decide ((0 : Int) <= i) = true := decide_eq_true (by omega)
   go_enter Tryz.func88,Tryz.ntmps88
   go_wp2_with fail
   ((with_reducible refine HE.out.mono ?_); rintro e w1 ⟨A1,c1,rfl,hown,hb⟩)
   go_wp2_with fail
   go_ret
   exact RdRet.none _ _ hb
 ·obtain ⟨K,rfl⟩ := Int.eq_ofNat_of_zero_le (show 0 <= k by omega)
  have HE := hid (even_any n K w (by omega) (by omega) (by omega))
  by_cases hin : 0 <= i /\ i < (K : Int)
  ·obtain ⟨I,rfl⟩ := Int.eq_ofNat_of_zero_le hin.1
   have hIK : I < K := by omega
   have hm := bnd_mono n K I (I + 1) (by omega)
   have hle := bnd_le n K (I + 1) (by omega) (by omega)
   have hp : pieceL l (I : Int) (K : Int) = (l.drop (bnd n K I)).take (bnd n K (I + 1) - bnd n K I) := by
    rw [pieceL,if_pos hin,HL.out]
    rfl
   rw [hp]
   have HX := hid (even_at n K I hIK)
   obtain ⟨lo,hlo⟩ : ∃ lo,bnd n K I = lo := ⟨_,rfl⟩
   obtain ⟨hi',hhi⟩ : ∃ hi',bnd n K (I + 1) = hi' := ⟨_,rfl⟩
   rw [hlo,hhi] at HX hm
   rw [hhi] at hle
   rw [hlo,hhi]
   obtain ⟨m,hmm⟩ : ∃ m,hi' - lo = m := ⟨_,rfl⟩
   rw [hmm]
   have HMM := hid hmm
   have HLN : Hid (((l.drop lo).take m).length = m) := hid (sub_len HL.out lo m (by omega))
   rw [HLN.out]
   have e1 : decide ((I : Int) < 0) = false := decide_eq_false (by omega)
   have e2 : decide ((K : Int) <= (I : Int)) = false := decide_eq_false (by omega)
   have i2 : (I : Int) < (K : Int) := by omega
   have i3 : (0 : Int) <= (I : Int) := by omega
   clear hp hlo hhi hin hk1 hmm
   go_enter Tryz.func88,Tryz.ntmps88
   go_wp2_with fail
   ((with_reducible refine HE.out.mono ?_); rintro e w1 ⟨A1,c1,rfl,hown,hb⟩)
   obtain ⟨b1,o1,x,y,rfl,hbl,hx,d1,d2⟩ := rd_at (evenL_length n K) (Rd.of_own hown) hIK
   rw [HX.out] at hx
   injection hx with hx
   injection hx with hx1 hx2
   subst hx1 hx2
   have HB := hid hb
   clear hb hown
   go_wp2_with fail
   ·obtain rfl : m = 0 := by have := HMM.out; omega
    go_ret
    exact ⟨A,0,rfl,Nat.le_refl _,rd_zero _ _ _ _,HB.out.alloc HB.out.size _⟩
   ·rw [HMM.out]
    go_ret
    exact ⟨_,_,rfl,Nat.le_refl _,(rd_map (HR.out.below HB.out) HL.out lo m (by have := HMM.out; omega)).alloc _,HB.out.alloc HB.out.size _⟩
  ·have hp : pieceL l i (K : Int) = [] := by rw [pieceL,if_neg hin]
   rw [hp]
   clear hp
   by_cases hi1 : i < 0
   ·have e1 : decide (i < 0) = true := decide_eq_true hi1
    go_enter Tryz.func88,Tryz.ntmps88
    go_wp2_with fail
    ((with_reducible refine HE.out.mono ?_); rintro e w1 ⟨A1,c1,rfl,hown,hb⟩)
    go_wp2_with fail
    go_ret
    exact RdRet.none _ _ hb
   ·have e1 : decide (i < 0) = false := decide_eq_false hi1
    have e2 : decide ((K : Int) <= i) = true := decide_eq_true (by omega)
    go_enter Tryz.func88,Tryz.ntmps88
    go_wp2_with fail
    ((with_reducible refine HE.out.mono ?_); rintro e w1 ⟨A1,c1,rfl,hown,hb⟩)
    go_wp2_with fail
    go_ret
    exact RdRet.none _ _ hb
end
end Go.Proofs.YtkmaeipoaoikpaaGreat
