/- Link5, Draw, Cyc, Sgd7. -/
import Derived.Maps.Ext
import Derived.Test.YtkmaeipoaoikpaaGreatEB21
namespace Go.Proofs.YtkmaeipoaoikpaaGreat
set_option linter.all false
set_option maxRecDepth 100000
set_option maxHeartbeats 2000000
open Lib (hid)
section
open Go.RowKit
theorem bcell' {a w w' : World} (h : Below a.heap.size w w') (hs : a.heap.size = w.heap.size) : ∀ b o,b < w.heap.size -> w'.cell? ⟨b,o,none⟩ = w.cell? ⟨b,o,none⟩ := fun b o hb => h.cell (p := ⟨b,o,none⟩) (by rw [hs]; exact hb)
def RecvRet (S : Nat -> Prop) (w : World) (b cp s r : Nat) (q : List (TagN × List Int)) (t : TagN) (vs : List Int) (e : Ending) (w' : World) : Prop :=
 ∃ A n c,e = .returned (.tuple #[.agg #[.int .i64 t.1,.int .i64 t.2.1,.int .i64 t.2.2.1,.int .i64 t.2.2.2.1,.int .i64 t.2.2.2.2,.slice A n c],.int .i64 0]) /\ LinkAt S w' b cp s (r + 1) q /\ But (fun x => x = b) w w' /\ w'.ownsRow 0 2 1 (.slice A n c) n (iv vs) /\ n <= 1000000 /\ (∀ g,(Value.slice A n c).ownBlock = some g -> S g)
theorem But.setc {S : Nat -> Prop} {a w : World} (h : But S a w) {p : Addr} (hp : a.heap.size <= p.block) (u : Value) : But S a (w.setCell p u) :=
 ⟨h.os,h.tape,h.output,by simpa [World.setCell] using h.size,fun i hi hn => (Below.heap_setCell w p u i (by omega)).trans (h.block i hi hn)⟩
theorem recv_fin {S : Nat -> Prop} {w w9 : World} {b cp s r n c nm cm : Nat} {q : List (TagN × List Int)} {A Am : Option Addr} {pk : Int} {ms : List MsgS} {t : TagN} {vs : List Int} (h : LinkIn S w b cp s r ((t,vs) :: q) A n c pk ms)
  (hV : w.ownsRow 0 2 1 (.slice Am nm cm) nm (iv vs)) (hVS : ∀ g,(Value.slice Am nm cm).ownBlock = some g -> S g) (hnm : nm <= 1000000) (hbut : But (fun x => x = b) w w9) (hL : Blk w9 b 243 (lnkC A n c cp s (r + 1) pk)) :
  RecvRet S w b cp s r q t vs (.returned (.tuple #[.agg #[.int .i64 t.1,.int .i64 t.2.1,.int .i64 t.2.2.1,.int .i64 t.2.2.2.1,.int .i64 t.2.2.2.2,.slice Am nm cm],.int .i64 0])) w9 := by
 have hql := h.ql
 simp at hql
 have hrm := h.room
 refine ⟨Am,nm,cm,rfl,⟨A,n,c,pk,ms,h.sb,hL,own_but h.own hbut (fun g hg e => ?_),h.so,h.len,h.nn,by omega,by omega,by omega,h.s9,h.cp1,h.cp2,fun j hj => ?_⟩,hbut,own_but hV hbut (fun g hg e => ?_),hnm,hVS⟩
 ·subst e; exact own_blk_ne h.own h.blk (by decide) hg
 ·obtain ⟨m,vs',h1,h2,h3,h4,h5⟩ := h.get (j + 1) (by omega)
  refine ⟨m,vs',by rw [show r + 1 + j = r + (j + 1) by omega]; exact h1,by simpa using h2,own_but h3 hbut (fun g hg e => ?_),h4,h5⟩
  subst e; exact own_blk_ne h3 h.blk (by decide) hg
 ·subst e; exact own_blk_ne hV h.blk (by decide) hg
theorem linkRecv_some (S : Nat -> Prop) (b cp s r : Nat) (q : List (TagN × List Int)) (t : TagN) (vs : List Int) (w : World) (h : LinkAt S w b cp s r ((t,vs) :: q)) :
    Calls Tryz.prog 265 #[.pointer (some ⟨b,0,none⟩),.agg #[.int .i64 t.1,.int .i64 t.2.1,.int .i64 t.2.2.1,.int .i64 t.2.2.2.1,.int .i64 t.2.2.2.2]] w (RecvRet S w b cp s r q t vs) := by
  obtain ⟨A,n,c,pk,ms,h⟩ := h
  have hrs : r < s := by have := h.ql; simp at this; omega
  obtain ⟨m,vs',hm,hq,hV,hVS,hmn⟩ := h.get 0 (by omega)
  rw [Nat.add_zero] at hm
  have hq2 : (t,vs) = (m.1,vs') := by simpa using hq
  injection hq2 with hq3 hq4
  subst hq4
  obtain ⟨mt,Am,nm,cm⟩ := m
  obtain rfl : t = mt := hq3
  obtain ⟨t1,t2,t3,t4,t5⟩ := t
  dsimp only at hV hVS hmn hm ⊢
  obtain ⟨p,hp⟩ : ∃ p,r % cp = p := ⟨_,rfl⟩
  have hs9 := h.s9
  have HPK' : ∀ W,Below w.heap.size w W -> Calls Tryz.prog 279 #[.pointer (some ⟨b,0,none⟩)] W fun e w' => e = .returned (.tuple #[.agg #[.int .i64 t1,.int .i64 t2,.int .i64 t3,.int .i64 t4,.int .i64 t5],.bool true]) /\ Below W.heap.size W w' := (fun W (k : Below w.heap.size w W) => linkPeek_some A n c cp s r pk b W ms _ 0 (h.blk.kept k) hrs (by omega) h.cp1 h.cp2 (own_below h.own k) hm h.len)
  have HPK := hid HPK'
  clear HPK'
  rw [hp] at hm
  have hpn : p < n := by rw [<- h.len]; exact (List.getElem?_eq_some_iff.1 hm).1
  obtain ⟨g,rfl,lg,hc⟩ := own_msg h.own hm hpn
  have q0 : w.cell? ⟨g,p * 6,none⟩ = some (.int .i64 t1) := hc 0 (by omega)
  have q1 : w.cell? ⟨g,p * 6 + 1,none⟩ = some (.int .i64 t2) := hc 1 (by omega)
  have q2 : w.cell? ⟨g,p * 6 + 2,none⟩ = some (.int .i64 t3) := hc 2 (by omega)
  have q3 : w.cell? ⟨g,p * 6 + 3,none⟩ = some (.int .i64 t4) := hc 3 (by omega)
  have q4 : w.cell? ⟨g,p * 6 + 4,none⟩ = some (.int .i64 t5) := hc 4 (by omega)
  have q5 : w.cell? ⟨g,p * 6 + 5,none⟩ = some (.slice Am nm cm) := hc 5 (by omega)
  have c0 : w.cell? ⟨b,0,none⟩ = some (.slice (some ⟨g,0,none⟩) n c) := h.blk.cell 0
  have c3 : w.cell? ⟨b,3,none⟩ = some (.int .i64 r) := h.blk.cell 3
  have lb := h.blk.lt
  have hcp1 := h.cp1
  have hcp2 := h.cp2
  have HPL := hid (fun W (k : Kept w W) => by
    have := linkPlace_any (some ⟨g,0,none⟩) n c cp s r pk b W r (h.blk.kept k.2.2) hcp1 hcp2 (by omega)
    rw [hp] at this
    exact this)
  have HI := hid h
  have HV := hid hV
  have HVS := hid hVS
  have i1 : (0 : Int) <= (p : Int) := by omega
  have i2 : (p : Int) < (n : Int) := by omega
  obtain ⟨w0,hw0⟩ : ∃ w0,(w.alloc (.cells #[.int .i64 t1,.int .i64 t2,.int .i64 t3,.int .i64 t4,.int .i64 t5] 216)).alloc (.cells #[.int .i64 0,.int .i64 0,.int .i64 0,.int .i64 0,.int .i64 0,.slice none 0 0] 259) = w0 := ⟨_,rfl⟩
  have HW0 := hid hw0
  have HB0 : Hid (Below w.heap.size w w0) := hid (by rw [<- hw0]; exact ((Below.refl _ _).alloc (Nat.le_refl _) _).alloc (by simp) _)
  have HT0 : Hid (Blk w0 w.heap.size 216 #[.int .i64 t1,.int .i64 t2,.int .i64 t3,.int .i64 t4,.int .i64 t5]) := hid (by rw [<- hw0]; exact (Blk.new w _ _).alloc _)
  have HM0 : Hid (Blk w0 (w.heap.size + 1) 259 #[.int .i64 0,.int .i64 0,.int .i64 0,.int .i64 0,.int .i64 0,.slice none 0 0]) := hid (by rw [<- hw0]; exact Blk.new' _ _ (by simp))
  clear hc h hm hp hV hVS hw0 hq
  go_enter Tryz.func265,Tryz.ntmps265
  go_wp2_with fail
  rw [HW0.out]
  ((with_reducible refine (HPK.out w0 HB0.out).mono ?_); rintro e w1 ⟨rfl,hb1⟩)
  have HB1 := hid (HB0.out.trans (hb1.mono HB0.out.size))
  have HT1 := hid (HT0.out.kept hb1)
  have HM1 := hid (HM0.out.kept hb1)
  obtain ⟨w2,hw2⟩ : ∃ w2,w1.alloc (.cells #[.int .i64 t1,.int .i64 t2,.int .i64 t3,.int .i64 t4,.int .i64 t5] 216) = w2 := ⟨_,rfl⟩
  have hz1 := HB1.out.size
  have HB2 : Hid (Below w.heap.size w w2) := hid (by rw [<- hw2]; exact HB1.out.alloc hz1 _)
  have HT2 : Hid (Blk w2 w.heap.size 216 #[.int .i64 t1,.int .i64 t2,.int .i64 t3,.int .i64 t4,.int .i64 t5]) := hid (by rw [<- hw2]; exact HT1.out.alloc _)
  have HM2 : Hid (Blk w2 (w.heap.size + 1) 259 #[.int .i64 0,.int .i64 0,.int .i64 0,.int .i64 0,.int .i64 0,.slice none 0 0]) := hid (by rw [<- hw2]; exact HM1.out.alloc _)
  have HN2 : Hid (Blk w2 w1.heap.size 216 #[.int .i64 t1,.int .i64 t2,.int .i64 t3,.int .i64 t4,.int .i64 t5]) := hid (by rw [<- hw2]; exact Blk.new _ _ _)
  have HW2 := hid hw2
  have HTL := hid HT1.out.lt
  clear hw2 hb1
  have s0 := HT1.out.cell 0
  have s1 := HT1.out.cell 1
  have s2 := HT1.out.cell 2
  have s3 := HT1.out.cell 3
  have s4 := HT1.out.cell 4
  have sl := HT1.out.lt
  go_wp2_with fail
  rw [HW2.out]
  clear s0 s1 s2 s3 s4 sl
  have hc2 := bcell' HB2.out rfl
  rw [<- hc2 b 0 lb] at c0
  rw [<- hc2 b 3 lb] at c3
  rw [<- hc2 g _ lg] at q0 q1 q2 q3 q4 q5
  have lb2 : b < w2.heap.size := Nat.lt_of_lt_of_le lb HB2.out.size
  have lg2 : g < w2.heap.size := Nat.lt_of_lt_of_le lg HB2.out.size
  have KS : Kept w w2.drew := Kept.of HB2.out.drew
  have K2 : Kept w2 w2.drew := Kept.start w2
  have KN : Kept w w2 := Kept.of HB2.out
  have KM : Kept w2 w2 := Kept.of (Below.refl _ _)
  obtain ⟨w4,hw4⟩ : ∃ w4,(w2.alloc (.cells #[.int .i64 t1,.int .i64 t2,.int .i64 t3,.int .i64 t4,.int .i64 t5,.slice Am nm cm] 259)).drew = w4 := ⟨_,rfl⟩
  have HB4 : Hid (Below w.heap.size w w4) := hid (by rw [<- hw4]; exact (HB2.out.alloc HB2.out.size _).drew)
  have HM4 : Hid (Blk w4 (w.heap.size + 1) 259 #[.int .i64 0,.int .i64 0,.int .i64 0,.int .i64 0,.int .i64 0,.slice none 0 0]) := hid (by rw [<- hw4]; exact (HM2.out.alloc _).drew)
  have HN4 : Hid (Blk w4 w2.heap.size 259 #[.int .i64 t1,.int .i64 t2,.int .i64 t3,.int .i64 t4,.int .i64 t5,.slice Am nm cm]) := hid (by rw [<- hw4]; exact (Blk.new _ _ _).drew)
  have hN2 : w.heap.size + 1 < w2.heap.size := HM2.out.lt
  have HW4 := hid hw4
  clear hw4
  clear hc2
  go_region_held3 (fun w' => Kept w2 w') (first | exact K2 | exact K2.alloc _) (first
    | (go_at_call 193; (with_reducible refine (HPL.out _ (by first | exact KS | exact (KN.alloc _).drew | exact KS.alloc _)).mono ?_); rintro e w3 ⟨rfl,hw3⟩; subst hw3))
  all_goals rw [HW4.out]
  all_goals clear c0 c3 q0 q1 q2 q3 q4 q5 lb2 lg2 KS K2 KN KM
  all_goals have hL4 := HI.out.blk.kept HB4.out
  all_goals have c3 : w4.cell? ⟨b,3,none⟩ = some (.int .i64 r) := hL4.cell 3
  all_goals have f3 := hL4.frozen 3
  all_goals have l4 := hL4.lt
  all_goals have HL4 := hid hL4
  all_goals clear hL4
  all_goals obtain ⟨r1,hr1⟩ : ∃ r1,r + 1 = r1 := ⟨_,rfl⟩
  all_goals have hwr : IntKind.i64.wrap ((r : Int) + 1) = (r1 : Int) := by rw [show (r : Int) + 1 = (r1 : Int) by omega]; exact IntWalk.i64_in _ (by omega)
  all_goals have HR1 := hid hr1
  all_goals clear hr1
  all_goals go_wp2_with fail
  all_goals go_region
  all_goals have hL5 := (lnk_set3 HL4.out r1).2.drew
  all_goals have hg5 := gr_drew (lnk_set3 HL4.out r1).1
  all_goals have hM5 := (HM4.out.grown (lnk_set3 HL4.out r1).1 (by intro e; injection e with e; omega)).drew
  all_goals have hN5 := (HN4.out.grown (lnk_set3 HL4.out r1).1 (by intro e; injection e with e; omega)).drew
  all_goals obtain ⟨w5,hw5⟩ : ∃ w5,(w4.setCell ⟨b,3,none⟩ (.int .i64 r1)).drew = w5 := ⟨_,rfl⟩
  all_goals rw [hw5] at hL5 hg5 hM5 hN5 ⊢
  all_goals clear hw5 c3 f3 l4
  all_goals have m0 := hM5.cell 0
  all_goals have m1 := hM5.cell 1
  all_goals have m2 := hM5.cell 2
  all_goals have m3 := hM5.cell 3
  all_goals have m4 := hM5.cell 4
  all_goals have m5 := hM5.cell 5
  all_goals have z0 := hM5.frozen 0
  all_goals have z1 := hM5.frozen 1
  all_goals have z2 := hM5.frozen 2
  all_goals have z3 := hM5.frozen 3
  all_goals have z4 := hM5.frozen 4
  all_goals have z5 := hM5.frozen 5
  all_goals have lm := hM5.lt
  all_goals have n0 := hN5.cell 0
  all_goals have n1 := hN5.cell 1
  all_goals have n2 := hN5.cell 2
  all_goals have n3 := hN5.cell 3
  all_goals have n4 := hN5.cell 4
  all_goals have n5 := hN5.cell 5
  all_goals have ln := hN5.lt
  all_goals have HL5 := hid hL5
  all_goals have HG5 := hid hg5
  all_goals have HM5 := hid hM5
  all_goals clear hL5 hg5 hM5 hN5
  all_goals go_wp2_with fail
  all_goals refine bodyPost_ret (v := .tuple #[.agg #[.int .i64 t1,.int .i64 t2,.int .i64 t3,.int .i64 t4,.int .i64 t5,.slice Am nm cm],.int .i64 0]) (by simp [results,Tryz.results265,go_sem,m0,m1,m2,m3,m4,m5,lm]) rfl ?_
  all_goals refine recv_fin HI.out HV.out HVS.out hmn ?_ ?_
  all_goals first
    | (repeat (refine But.setc (p := ⟨w.heap.size + 1,_,none⟩) ?_ (show w.heap.size <= w.heap.size + 1 by omega) _)
       exact (But.of_below (fun x => x = b) HB4.out).trans (But.of_gr (S := fun x => x = b) HG5.out rfl))
    | (rw [HR1.out]
       repeat (refine Blk.far (p := ⟨w.heap.size + 1,_,none⟩) ?_ (show b ≠ w.heap.size + 1 by omega) _)
       exact HL5.out)
def uv (l : List Int) : List Value := l.map (Value.int .u64)
theorem uv_get (l : List Int) (k : Nat) (hk : k < l.length) : (uv l)[k]? = some (.int .u64 l[k]) := by simp [uv,hk]
theorem uv_one (l : List Int) : ∀ u ∈ uv l,u.oneCell' = true := by
 intro u hu
 unfold uv at hu
 simp only [List.mem_map] at hu
 obtain ⟨x,_,rfl⟩ := hu
 rfl
theorem uv_at {w : World} {A : Option Addr} {n k : Nat} {l : List Int} (hl : l.length = n) (h : Rd w 1 A n (uv l)) (hk : k < n) : ∃ b o x,A = some ⟨b,o,none⟩ /\ b < w.heap.size /\ l[k]? = some x /\ w.cell? ⟨b,o + k,none⟩ = some (.int .u64 x) := by
 obtain ⟨b,o,e,hb,hc⟩ := h.2 (by omega)
 have hk' : k < l.length := by omega
 exact ⟨b,o,l[k],e,hb,List.getElem?_eq_getElem hk',hc _ _ (uv_get l k hk')⟩
theorem slU64 : Sl Tryz.prog 27 135 (.int .u64 0) 1 8 := ⟨Tryz.underlying27,by kernel_rfl,rfl,by omega⟩
def InU (l : List Int) : Prop := ∀ x ∈ l,0 <= x /\ x < 18446744073709551616
structure Stm (w : World) (b : Nat) (A : Option Addr) (n cap k : Nat) (L : List Int) : Prop where
 blk : Blk w b 299 #[.slice A n cap,.int .i64 k]
 len : L.length = n
 le : k <= n
 rd : Rd w 1 A n (uv L)
 apart : ∀ b' o,A = some ⟨b',o,none⟩ -> 0 < n -> b' ≠ b
 inb : InU L
theorem Stm.kept {w w' : World} {b : Nat} {A : Option Addr} {n cap k : Nat} {L : List Int} (h : Stm w b A n cap k L) (hb : Below w.heap.size w w') : Stm w' b A n cap k L :=
 ⟨h.blk.kept hb,h.len,h.le,h.rd.below hb,h.apart,h.inb⟩
theorem Stm.turned {w w' : World} {b : Nat} {A : Option Addr} {n cap k k' : Nat} {L : List Int} (h : Stm w b A n cap k L) (hg : w.grownBy w' (some b)) (hb : Blk w' b 299 #[.slice A n cap,.int .i64 k']) (hk : k' <= n) : Stm w' b A n cap k' L :=
 ⟨hb,h.len,hk,h.rd.grown hg h.apart,h.apart,h.inb⟩
theorem cloneU_any (A : Option Addr) (n cap : Nat) (l : List Int) (w : World) (hl : l.length = n) (h : Rd w 1 A n (uv l)) (hn : n * 8 <= 140737488351232) :
  Calls Tryz.prog 162 #[.slice A n cap] w (OwnRet w 135 1 n (uv l)) := by
 have HR := hid h
 have HL := hid hl
 have hq := fun (w : World) (a : Option Addr) (n c : Nat) => Lib.run_eql_slice_nil (P := Tryz.prog) w 27 135 a n c 0 0 Tryz.underlying27
 clear h hl
 cases A with
 | none =>
  have hn0 : n = 0 := by
   rcases Nat.eq_zero_or_pos n with h0 | h0
   ·exact h0
   ·obtain ⟨b,o,h,_⟩ := HR.out.2 h0; cases h
  subst hn0
  have hl0 : l = [] := List.eq_nil_of_length_eq_zero HL.out
  subst hl0
  go_enter Tryz.func162,Tryz.ntmps162
  go_wp2
  go_ret
  exact ⟨none,0,rfl,World.ownsRow_nil _ _ _ _,Below.refl _ _⟩
 | some ad =>
  go_enter Tryz.func162,Tryz.ntmps162
  go_wp2_with (at_builtin; go_must (refine wpList_appendAll slU64 rfl _ _ rfl w.heap.size _ 0 [] rfl (World.ownsRow_lit w #[] 0 (Nat.le_refl _) (by unfold maxLen; omega) rfl) (some ad) n cap (uv l) rfl (HR.out.alloc _) (uv_one l) (by unfold maxLen; omega) (by omega) (by simp) ?_); intro A' cap' w1 hown1 hb1)
  go_ret
  exact ⟨A',cap',by simp,by simpa using hown1,((Below.refl _ _).alloc (Nat.le_refl _) _).trans hb1⟩
def NewRet (w : World) (n : Nat) (l : List Int) (en : Ending) (w' : World) : Prop :=
 ∃ g A cap,en = .returned (.pointer (some ⟨g,0,none⟩)) /\ Stm w' g A n cap 0 l /\ w.heap.size <= g /\ (∀ b o,A = some ⟨b,o,none⟩ -> w.heap.size <= b) /\ Below w.heap.size w w'
theorem drawNew_any (A : Option Addr) (n cap : Nat) (l : List Int) (w : World) (hl : l.length = n) (h : Rd w 1 A n (uv l)) (hn : n * 8 <= 140737488351232) (hu : InU l) :
  Calls Tryz.prog 78 #[.slice A n cap] w (NewRet w n l) := by
 have HR := hid h
 have HL := hid hl
 have HU := hid hu
 clear h hl hu
 go_enter Tryz.func78,Tryz.ntmps78
 go_wp2_with fail
 ((with_reducible refine (cloneU_any A n cap l _ HL.out HR.out (by omega)).mono ?_); rintro e w1 ⟨A',cap',rfl,hown,hb1⟩)
 have HO := hid hown
 clear hown
 go_wp2
 go_ret
 refine ⟨w1.heap.size,A',cap',rfl,⟨Blk.new _ _ _,HL.out,Nat.zero_le _,(Rd.of_own HO.out).alloc _,fun b' o e _ => ?_,HU.out⟩,hb1.size,fun b o e => (own_rd_block HO.out b o e).1,hb1.alloc hb1.size _⟩
 have := (own_rd_block HO.out b' o e).2
 omega
theorem left_any (b : Nat) (A : Option Addr) (n cap k : Nat) (w : World) (h : Blk w b 299 #[.slice A n cap,.int .i64 k]) (hk : k <= n) (hn : n <= 9223372036854775807) :
  Calls Tryz.prog 213 #[.pointer (some ⟨b,0,none⟩)] w fun e w' => e = .returned (.int .i64 ((n : Int) - (k : Int))) /\ ∃ m,w' = w.drewN m := by
 have c0 : w.cell? ⟨b,0,none⟩ = some (.slice A n cap) := h.cell 0
 have c1 : w.cell? ⟨b,1,none⟩ = some (.int .i64 k) := h.cell 1
 clear h
 go_enter Tryz.func213,Tryz.ntmps213
 go_wp2_with fail
 go_quiet (fail)
 go_wp2
 go_ret
 exact ⟨rfl,_,rfl⟩
def Turned (w : World) (b : Nat) (A : Option Addr) (n cap k : Nat) (v : Value) (en : Ending) (w' : World) : Prop :=
 en = .returned v /\ w.grownBy w' (some b) /\ Blk w' b 299 #[.slice A n cap,.int .i64 k]
theorem rem_fits {x m : Int} (hx : 0 <= x) (hm : 1 <= m) (hm2 : m <= 9223372036854775807) : wrap64 (x % m) = x % m := by
 have h1 := Int.emod_nonneg x (show m ≠ 0 by omega)
 have h2 := Int.emod_lt_of_pos x (show 0 < m by omega)
 exact IntWalk.wrap64_in _ ⟨by omega,by omega⟩
theorem next_some (b : Nat) (A : Option Addr) (n cap k : Nat) (L : List Int) (m x : Int) (w : World) (h : Stm w b A n cap k L) (hm : 1 <= m) (hm2 : m <= 9223372036854775807) (hn : n <= 9223372036854775807) (hx : L[k]? = some x) :
  Calls Tryz.prog 215 #[.pointer (some ⟨b,0,none⟩),.int .i64 m] w (Turned w b A n cap (k + 1) (.tuple #[.int .i64 (x % m),.bool true])) := by
 have hk : k < n := by rw [<- h.len]; exact (List.getElem?_eq_some_iff.1 hx).1
 obtain ⟨b',o,x',rfl,hbl,hx',c2⟩ := uv_at h.len h.rd hk
 obtain rfl : x' = x := by rw [hx] at hx'; injection hx' with e; exact e.symm
 have hxb := h.inb x' (List.mem_of_getElem? hx)
 have hne := h.apart b' o rfl (by omega)
 have HB := hid h.blk
 have hd : ((n : Int) - (k : Int) == 0) = false := by simp; omega
 have c0 : w.cell? ⟨b,0,none⟩ = some (.slice (some ⟨b',o,none⟩) n cap) := h.blk.cell 0
 have c1 : w.cell? ⟨b,1,none⟩ = some (.int .i64 k) := h.blk.cell 1
 have f1 := h.blk.frozen 1
 have i1 : (0 : Int) <= (k : Int) := by omega
 have i2 : (k : Int) < (n : Int) := by omega
 clear h hx hx'
 go_enter Tryz.func215,Tryz.ntmps215
 go_wp2_with fail
 ((with_reducible refine (left_any b _ n cap k _ HB.out (by omega) hn).mono ?_); rintro e w1 ⟨rfl,q,rfl⟩)
 go_wp2_with fail
 go_quiet (fail)
 go_wp2
 go_ret2
 refine ⟨ret_pair (congrArg (Value.int .i64) (rem_fits hxb.1 hm hm2)),?_,?_⟩
 ·exact gr_drewN (gr_set (World.grownBy.refl _ _) (.inl rfl) _) _
 ·exact (HB.out.set_ 1 _).drewN _
theorem refNext_some (A : Option Addr) (n cap k : Nat) (L : List Int) (m x : Int) (w : World) (hl : L.length = n) (h : Rd w 1 A n (uv L)) (hu : InU L) (hm : 1 <= m) (hm2 : m <= 9223372036854775807) (hn : n <= 9223372036854775807) (hx : L[k]? = some x) :
  Calls Tryz.prog 226 #[.agg #[.slice A n cap,.int .i64 k],.int .i64 m] w fun e w' => e = .returned (.tuple #[.agg #[.slice A n cap,.int .i64 ((k + 1 : Nat) : Int)],.int .i64 (x % m),.bool true]) /\ Below w.heap.size w w' := by
 have hk : k < n := by rw [<- hl]; exact (List.getElem?_eq_some_iff.1 hx).1
 obtain ⟨b',o,x',rfl,hbl,hx',c2⟩ := uv_at hl h hk
 obtain rfl : x' = x := by rw [hx] at hx'; injection hx' with e; exact e.symm
 have hxb := hu x' (List.mem_of_getElem? hx)
 clear h hx hx' hl hu
 go_enter Tryz.func226,Tryz.ntmps226
 go_wp2
 go_region
 go_wp2
 exact bodyPost_ret (v := .tuple #[.agg #[.slice (some ⟨b',o,none⟩) n cap,.int .i64 ((k + 1 : Nat) : Int)],.int .i64 (x' % m),.bool true]) (by simp [results,Tryz.results226,go_sem,rem_fits hxb.1 hm hm2]) rfl ⟨rfl,(((Below.refl _ _).alloc (Nat.le_refl _) _).alloc (by simp) _).drew⟩
abbrev SlN := Option Addr × Nat × Nat
def slsv (vs : List SlN) : List Value := vs.map fun s => .slice s.1 s.2.1 s.2.2
theorem slsv_snoc (vs : List SlN) (s : SlN) : slsv (vs ++ [s]) = slsv vs ++ [.slice s.1 s.2.1 s.2.2] := by simp [slsv]
theorem slsv_get {vs : List SlN} {i : Nat} {s : SlN} (h : vs[i]? = some s) : (slsv vs)[i]? = some (.slice s.1 s.2.1 s.2.2) := by simp [slsv,h]
theorem own_ne_own {w : World} {base base' : Nat} {e e' : TypeId} {size size' n n' : Nat} {v v' : Value} {xs xs' : List Value} (h : w.ownsRow base e size v n xs) (h' : w.ownsRow base' e' size' v' n' xs') (hne : e ≠ e') : v.ownBlock = none \/ v.ownBlock ≠ v'.ownBlock := by
 rcases h'.2 with ⟨rfl,_⟩ | ⟨g',cap,cur,rfl,_,hh,_⟩
 ·rcases h.2 with ⟨rfl,_⟩ | ⟨g,cap,cur,rfl,_⟩
  ·exact .inl (by simp [Value.ownBlock])
  ·exact .inr (by simp [Value.ownBlock])
 ·exact .inr (by have := own_blk_ne h (g := g') (t := e') (cs := cur) hh hne; simpa [Value.ownBlock] using this)
structure OwnN (w : World) (base : Nat) (vs : List SlN) (ls : List (List Int)) : Prop where
 len : vs.length = ls.length
 row : ∀ (i : Nat) (s : SlN) (l : List Int),vs[i]? = some s -> ls[i]? = some l -> s.2.1 = l.length /\ w.ownsRow base 3 1 (.slice s.1 s.2.1 s.2.2) s.2.1 (iv l)
theorem OwnN.nil (w : World) (base : Nat) : OwnN w base [] [] := ⟨rfl,fun i s l h => by simp at h⟩
theorem OwnN.below {w w' : World} {base : Nat} {vs : List SlN} {ls : List (List Int)} (h : OwnN w base vs ls) (hb : Below w.heap.size w w') : OwnN w' base vs ls :=
 ⟨h.len,fun i s l h1 h2 => ⟨(h.row i s l h1 h2).1,own_below (h.row i s l h1 h2).2 hb⟩⟩
theorem OwnN.base {w : World} {base base' : Nat} {vs : List SlN} {ls : List (List Int)} (h : OwnN w base vs ls) (hb : base' <= base) : OwnN w base' vs ls :=
 ⟨h.len,fun i s l h1 h2 => ⟨(h.row i s l h1 h2).1,own_base (h.row i s l h1 h2).2 hb⟩⟩
theorem OwnN.but {w w' : World} {S : Nat -> Prop} {base : Nat} {vs : List SlN} {ls : List (List Int)} (h : OwnN w base vs ls) (hb : But S w w')
  (hv : ∀ (v : Value) (n : Nat) (xs : List Value) (g : Nat),w.ownsRow base 3 1 v n xs -> v.ownBlock = some g -> ¬ S g) : OwnN w' base vs ls :=
 ⟨h.len,fun i s l h1 h2 => ⟨(h.row i s l h1 h2).1,own_but (h.row i s l h1 h2).2 hb (fun g e => hv _ _ _ g (h.row i s l h1 h2).2 e)⟩⟩
theorem OwnN.rowkept {w w' : World} {base base' : Nat} {t : TypeId} {size n : Nat} {v : Value} {xs : List Value} {vs : List SlN} {ls : List (List Int)} (h : OwnN w base vs ls) (hv : w.ownsRow base' t size v n xs) (ht : 3 ≠ t) (hg : w.grownBy w' v.ownBlock) : OwnN w' base vs ls :=
 ⟨h.len,fun i s l h1 h2 => ⟨(h.row i s l h1 h2).1,(h.row i s l h1 h2).2.kept hg (own_ne_own (h.row i s l h1 h2).2 hv ht)⟩⟩
theorem OwnN.snoc {w : World} {base : Nat} {vs : List SlN} {ls : List (List Int)} {s : SlN} {l : List Int} (h : OwnN w base vs ls) (hl : s.2.1 = l.length) (h1 : w.ownsRow base 3 1 (.slice s.1 s.2.1 s.2.2) s.2.1 (iv l)) : OwnN w base (vs ++ [s]) (ls ++ [l]) := by
 refine ⟨by simp [h.len],fun i s' l' hs hl' => ?_⟩
 rw [List.getElem?_append] at hs hl'
 rw [h.len] at hs
 split at hs
 ·rename_i hi
  rw [if_pos hi] at hl'
  exact h.row i s' l' hs hl'
 ·rename_i hi
  rw [if_neg hi] at hl'
  have : i - ls.length = 0 := by
   have := (List.getElem?_eq_some_iff.1 hs).1
   simp at this
   omega
  rw [this] at hs hl'
  simp at hs hl'
  subst hs hl'
  exact ⟨hl,h1⟩
theorem slRows : Sl Tryz.prog 82 22 (.slice none 0 0) 1 24 := ⟨Tryz.underlying82,by kernel_rfl,rfl,by omega⟩
theorem uone_sl (A : Option Addr) (n c : Nat) : ∀ u ∈ (#[Value.slice A n c] : Array Value).toList,u.oneCell' = true := by
 intro u hu
 simp at hu
 subst hu
 rfl
theorem sub_len {l : List Int} {N : Nat} (h : l.length = N) (lo n : Nat) (hfit : lo + n <= N) : ((l.drop lo).take n).length = n := by simp; omega
end
end Go.Proofs.YtkmaeipoaoikpaaGreat
