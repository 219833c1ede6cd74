/- RunPlain, NetP, Net1, FixpGates. -/
import Derived.Test.YtkmaeipoaoikpaaGreatEB05
import Derived.Test.YtkmaeipoaoikpaaGreatEB08
import Derived.Test.YtkmaeipoaoikpaaGreatEB09
namespace Go.Proofs.YtkmaeipoaoikpaaGreat
set_option linter.all false
set_option maxRecDepth 100000
set_option maxHeartbeats 4000000
open Lib (hid)
section
open Go.RowKit
abbrev StS := Option Addr × Nat × Option Addr × Nat
def stv (N M : Nat) (l : List StS) : List Value := l.flatMap fun s => [.slice s.1 N s.2.1,.slice s.2.2.1 M s.2.2.2]
theorem stv_append (N M : Nat) (l k : List StS) : stv N M (l ++ k) = stv N M l ++ stv N M k := by simp [stv]
theorem stv_cons (N M : Nat) (s : StS) (l : List StS) : stv N M (s :: l) = .slice s.1 N s.2.1 :: .slice s.2.2.1 M s.2.2.2 :: stv N M l := rfl
theorem stv_get (N M : Nat) (l : List StS) (k : Nat) (s : StS) (hk : l[k]? = some s) : (stv N M l)[k * 2]? = some (.slice s.1 N s.2.1) /\ (stv N M l)[k * 2 + 1]? = some (.slice s.2.2.1 M s.2.2.2) := by
 induction l generalizing k with
 | nil => simp at hk
 | cons r l ih =>
  rw [stv_cons]
  cases k with
  | zero =>
   obtain rfl : r = s := by simpa using hk
   exact ⟨rfl,rfl⟩
  | succ k =>
   have := ih k (by simpa using hk)
   rw [show (k + 1) * 2 = k * 2 + 2 by omega]
   simpa using this
theorem two_slices (A B : Option Addr) (N M c d : Nat) : ∀ u ∈ (#[Value.slice A N c,Value.slice B M d] : Array Value).toList,u.oneCell' = true := by
 intro u hu
 simp at hu
 rcases hu with rfl | rfl <;> rfl
theorem own_own_ne {w : World} {base base' : Nat} {e e' : TypeId} {size size' n n' : Nat} {v v' : Value} {xs xs' : List Value} (h : w.ownsRow base e size v n xs) (h' : w.ownsRow base' e' size' v' n' xs') (hne : e ≠ e') : v.ownBlock = none \/ v.ownBlock ≠ v'.ownBlock := by
 rcases h'.2 with ⟨rfl,_⟩ | ⟨g',cap,cur,rfl,_,hh,_⟩
 ·rcases h.2 with ⟨rfl,_⟩ | ⟨g,cap,cur,rfl,_⟩
  ·exact .inl (by simp [Value.ownBlock])
  ·exact .inr (by simp [Value.ownBlock])
 ·exact .inr (by have := own_blk_ne h (g := g') (t := e') (cs := cur) hh hne; simpa [Value.ownBlock] using this)
def OwnS (w : World) (base N M : Nat) (l : List StS) (f : Nat -> List Int × List Int) : Prop :=
 ∀ i s,l[i]? = some s -> w.ownsRow base 2 1 (.slice s.1 N s.2.1) N (iv (f (i + 1)).1) /\ w.ownsRow base 2 1 (.slice s.2.2.1 M s.2.2.2) M (iv (f (i + 1)).2)
theorem OwnS.below {w w' : World} {base N M : Nat} {l : List StS} {f : Nat -> List Int × List Int} (h : OwnS w base N M l f) (hb : Below w.heap.size w w') : OwnS w' base N M l f := fun i s hs => ⟨own_below (h i s hs).1 hb,own_below (h i s hs).2 hb⟩
theorem OwnS.base {w : World} {base base' N M : Nat} {l : List StS} {f : Nat -> List Int × List Int} (h : OwnS w base N M l f) (hb : base' <= base) : OwnS w base' N M l f := fun i s hs => ⟨own_base (h i s hs).1 hb,own_base (h i s hs).2 hb⟩
theorem OwnS.row {w w' : World} {base N M : Nat} {l : List StS} {f : Nat -> List Int × List Int} {base' : Nat} {t : TypeId} {size n : Nat} {v : Value} {xs : List Value} (h : OwnS w base N M l f) (hv : w.ownsRow base' t size v n xs) (ht : 2 ≠ t) (hg : w.grownBy w' v.ownBlock) : OwnS w' base N M l f :=
 fun i s hs => ⟨(h i s hs).1.kept hg (own_own_ne (h i s hs).1 hv ht),(h i s hs).2.kept hg (own_own_ne (h i s hs).2 hv ht)⟩
theorem OwnS.snoc {w : World} {base N M : Nat} {l : List StS} {f : Nat -> List Int × List Int} {A B : Option Addr} {c d : Nat} (h : OwnS w base N M l f) (h1 : w.ownsRow base 2 1 (.slice A N c) N (iv (f (l.length + 1)).1)) (h2 : w.ownsRow base 2 1 (.slice B M d) M (iv (f (l.length + 1)).2)) : OwnS w base N M (l ++ [(A,c,B,d)]) f := by
 intro i s hs
 rw [List.getElem?_append] at hs
 split at hs
 ·exact h i s hs
 ·rename_i hi
  have : i = l.length := by
   have := (List.getElem?_eq_some_iff.1 hs).1
   simp at this
   omega
  subst this
  obtain rfl : (A,c,B,d) = s := by simpa using hs
  exact ⟨h1,h2⟩
def szN (l : List Int) (k : Nat) : Nat := (l.getD k 0).toNat
def ofN (l : List Int) : Nat -> Nat
 | 0 => 0
 | k + 1 => ofN l k + szN l (k + 1) * szN l k + szN l (k + 1)
def obN (l : List Int) (k : Nat) : Nat := ofN l k + szN l (k + 1) * szN l k
theorem ofN_succ (l : List Int) (k : Nat) : ofN l (k + 1) = obN l k + szN l (k + 1) := rfl
theorem ofN_mono (l : List Int) : ∀ j k,j <= k -> ofN l j <= ofN l k := by
 intro j k h
 induction k with
 | zero => rw [Nat.le_zero.1 h]; exact Nat.le_refl _
 | succ k ih =>
  rcases Nat.lt_or_ge j (k + 1) with h1 | h1
  ·have := ih (by omega)
   rw [ofN]; omega
  ·rw [Nat.le_antisymm h h1]; exact Nat.le_refl _
structure NetP (l : List Int) (n NP : Nat) (P : List Int) (q : Int) : Prop where
 len : l.length = n
 n2 : 2 <= n
 n16 : n <= 16
 pos : ∀ (k : Nat) (x : Int),l[k]? = some x -> 1 <= x /\ x <= 1000
 cnt : ofN l (n - 1) = NP
 np : NP <= 1000
 pl : P.length = NP
 pin : AllIn P
 q0 : 0 <= q
 q62 : q <= 62
end
section
open Go.RowKit
variable {l : List Int} {n NP : Nat} {P : List Int} {q : Int}
theorem NetP.sz (h : NetP l n NP P q) {k : Nat} (hk : k < n) : l[k]? = some (szN l k : Int) /\ 1 <= szN l k /\ szN l k <= 1000 := by
 obtain ⟨x,hx⟩ : ∃ x,l[k]? = some x := ⟨_,List.getElem?_eq_getElem (by rw [h.len]; exact hk)⟩
 have hp := h.pos k x hx
 have e : szN l k = x.toNat := by rw [szN,List.getD_eq_getElem?_getD,hx]; rfl
 rw [hx,e]
 refine ⟨by congr 1; omega,by omega,by omega⟩
theorem NetP.getD (h : NetP l n NP P q) {k : Nat} (hk : k < n) : l.getD k 0 = (szN l k : Int) := by rw [List.getD_eq_getElem?_getD,(h.sz hk).1]; rfl
theorem NetP.cnt_eq (h : NetP l n NP P q) : ∀ k,k < n -> cntS l k = (ofN l k : Int) := by
 intro k
 induction k with
 | zero => intro _; rfl
 | succ k ih =>
  intro hk
  have h1 := h.getD hk
  have h2 := h.getD (show k < n by omega)
  have e := ih (by omega)
  show _ = ((ofN l k + szN l (k + 1) * szN l k + szN l (k + 1) : Nat) : Int)
  rw [cntS]
  rw [e,h1,h2]
  rw [Int.add_mul,Int.one_mul,Int.mul_comm]
  simp only [Int.natCast_add,Int.natCast_mul]
  omega
theorem NetP.fit (h : NetP l n NP P q) {k : Nat} (hk : k < n - 1) : obN l k + szN l (k + 1) <= NP := by
 rw [<- h.cnt,<- ofN_succ]
 exact ofN_mono l _ _ (by omega)
end
section
open Go.RowKit
def wtL (l P : List Int) (k : Nat) : List Int := (P.drop (ofN l k)).take (szN l (k + 1) * szN l k)
def bsL (l P : List Int) (k : Nat) : List Int := (P.drop (obN l k)).take (szN l (k + 1))
def lkE (l : List Int) (k : Nat) (s : StS) : List Value := [.int .i64 (szN l (k + 1)),.int .i64 (szN l k),.slice s.1 (szN l (k + 1) * szN l k) s.2.1,.slice s.2.2.1 (szN l (k + 1)) s.2.2.2]
def lkV (l : List Int) (ls : List StS) : List Value := ls.zipIdx.flatMap fun x => lkE l x.2 x.1
theorem lkV_snoc (l : List Int) (ls : List StS) (s : StS) : lkV l (ls ++ [s]) = lkV l ls ++ lkE l ls.length s := by simp [lkV,List.zipIdx_append]
theorem chunk_get {α : Type} {β : Type} (f : α -> List β) (c : Nat) (hf : ∀ x,(f x).length = c) : ∀ (l : List α) (k j : Nat) (x : α),j < c -> l[k]? = some x -> (l.flatMap f)[k * c + j]? = (f x)[j]? := by
 intro l
 induction l with
 | nil => intro k j x _ h; simp at h
 | cons a l ih =>
  intro k j x hj h
  rw [List.flatMap_cons]
  cases k with
  | zero =>
   obtain rfl : a = x := by simpa using h
   rw [Nat.zero_mul,Nat.zero_add,List.getElem?_append_left (by rw [hf]; exact hj)]
  | succ k =>
   rw [List.getElem?_append_right (by rw [hf,Nat.succ_mul]; omega),hf,show (k + 1) * c + j - c = k * c + j by rw [Nat.succ_mul]; omega]
   exact ih k j x hj (by simpa using h)
theorem lkV_get (l : List Int) (ls : List StS) (k j : Nat) (s : StS) (hj : j < 4) (hk : ls[k]? = some s) : (lkV l ls)[k * 4 + j]? = (lkE l k s)[j]? :=
 chunk_get (fun x : StS × Nat => lkE l x.2 x.1) 4 (fun _ => rfl) ls.zipIdx k j (s,k) hj (by simp [hk])
theorem slLink : Sl Tryz.prog 266 275 (.agg #[.int .i64 0,.int .i64 0,.slice none 0 0,.slice none 0 0]) 4 64 := ⟨Tryz.underlying266,by kernel_rfl,rfl,by omega⟩
def LkOk (w : World) (l P : List Int) (Ap : Option Addr) (cp : Nat) (ls : List StS) (lb : Nat) : Prop := ∀ k s,ls[k]? = some s ->
 w.ownsRow lb 2 1 (.slice s.1 (szN l (k + 1) * szN l k) s.2.1) (szN l (k + 1) * szN l k) (iv (wtL l P k)) /\ s.2.2.1 = pcA_RedMove Ap cp (obN l k) /\ s.2.2.2 = cp - obN l k
theorem LkOk.nil (w : World) (l P : List Int) (Ap : Option Addr) (cp lb : Nat) : LkOk w l P Ap cp [] lb := fun k s h => by simp at h
theorem LkOk.snoc {w : World} {l P : List Int} {Ap : Option Addr} {cp : Nat} {ls : List StS} {AV : Option Addr} {cV lb : Nat} (h : LkOk w l P Ap cp ls lb) (hV : w.ownsRow lb 2 1 (.slice AV (szN l (ls.length + 1) * szN l ls.length) cV) (szN l (ls.length + 1) * szN l ls.length) (iv (wtL l P ls.length))) :
  LkOk w l P Ap cp (ls ++ [(AV,cV,pcA_RedMove Ap cp (obN l ls.length),cp - obN l ls.length)]) lb := by
 intro k s hs
 by_cases hk : k < ls.length
 ·rw [List.getElem?_append_left hk] at hs
  exact h k s hs
 ·have hk2 : k < (ls ++ [(AV,cV,pcA_RedMove Ap cp (obN l ls.length),cp - obN l ls.length)]).length := (List.getElem?_eq_some_iff.1 hs).1
  simp at hk2
  obtain rfl : k = ls.length := by omega
  rw [List.getElem?_append_right (by omega)] at hs
  simp at hs
  subst hs
  exact ⟨hV,rfl,rfl⟩
theorem LkOk.stay {t u : TypeId} {w w' : World} {l P : List Int} {Ap : Option Addr} {cp : Nat} {ls : List StS} {lb : Nat} (h : LkOk w l P Ap cp ls lb) (hs : Stay t u w w') (hz : w.heap.size <= w'.heap.size) (h1 : 2 ≠ t) (h2 : 2 ≠ u) : LkOk w' l P Ap cp ls lb :=
 fun k s hk => ⟨hs.own hz (h k s hk).1 h1 h2,(h k s hk).2⟩
theorem LkOk.below {w w' : World} {l P : List Int} {Ap : Option Addr} {cp : Nat} {ls : List StS} {lb : Nat} (h : LkOk w l P Ap cp ls lb) (hb : Below w.heap.size w w') : LkOk w' l P Ap cp ls lb :=
 fun k s hk => ⟨own_below (h k s hk).1 hb,(h k s hk).2⟩
abbrev netC (bs : Nat) (Ap : Option Addr) (NP cp : Nat) (q : Int) (Al : Option Addr) (k cl : Nat) : Array Value := #[.pointer (some ⟨bs,0,none⟩),.slice Ap NP cp,.int .i64 q,.slice Al k cl]
structure NetIn (w : World) (nb : Nat) (l : List Int) (n NP : Nat) (P : List Int) (q : Int) (base bs : Nat) (Ap : Option Addr) (cp : Nat) (Al : Option Addr) (cl : Nat) (ls : List StS) (lb : Nat) : Prop where
 blk : Blk w nb 268 (netC bs Ap NP cp q Al (n - 1) cl)
 shp : ShapeAt w base bs l n
 prow : w.ownsRow lb 2 1 (.slice Ap NP cp) NP (iv P)
 lrow : w.ownsRow lb 275 4 (.slice Al (n - 1) cl) (n - 1) (lkV l ls)
 len : ls.length = n - 1
 wts : LkOk w l P Ap cp ls lb
 nbl : lb <= nb
def NetAt (w : World) (nb : Nat) (l : List Int) (n NP : Nat) (P : List Int) (q : Int) : Prop := ∃ base bs Ap cp Al cl ls lb,NetIn w nb l n NP P q base bs Ap cp Al cl ls lb
theorem NetIn.below {w w' : World} {nb : Nat} {l : List Int} {n NP : Nat} {P : List Int} {q : Int} {base bs : Nat} {Ap : Option Addr} {cp : Nat} {Al : Option Addr} {cl : Nat} {ls : List StS} {lb : Nat} (h : NetIn w nb l n NP P q base bs Ap cp Al cl ls lb) (hb : Below w.heap.size w w') : NetIn w' nb l n NP P q base bs Ap cp Al cl ls lb :=
 ⟨h.blk.kept hb,h.shp.below hb,own_below h.prow hb,own_below h.lrow hb,h.len,h.wts.below hb,h.nbl⟩
theorem NetAt.below {w w' : World} {nb : Nat} {l : List Int} {n NP : Nat} {P : List Int} {q : Int} (h : NetAt w nb l n NP P q) (hb : Below w.heap.size w w') : NetAt w' nb l n NP P q := by
 obtain ⟨base,bs,Ap,cp,Al,cl,ls,lb,h⟩ := h
 exact ⟨base,bs,Ap,cp,Al,cl,ls,lb,h.below hb⟩
def NetAtB (lb base bs : Nat) (w : World) (nb : Nat) (l : List Int) (n NP : Nat) (P : List Int) (q : Int) : Prop := ∃ Ap cp Al cl ls,NetIn w nb l n NP P q base bs Ap cp Al cl ls lb
theorem NetAtB.net {lb base bs : Nat} {w : World} {nb : Nat} {l : List Int} {n NP : Nat} {P : List Int} {q : Int} (h : NetAtB lb base bs w nb l n NP P q) : NetAt w nb l n NP P q := by
 obtain ⟨Ap,cp,Al,cl,ls,h⟩ := h
 exact ⟨base,bs,Ap,cp,Al,cl,ls,lb,h⟩
theorem NetAtB.below {lb base bs : Nat} {w w' : World} {nb : Nat} {l : List Int} {n NP : Nat} {P : List Int} {q : Int} (h : NetAtB lb base bs w nb l n NP P q) (hb : Below w.heap.size w w') : NetAtB lb base bs w' nb l n NP P q := by
 obtain ⟨Ap,cp,Al,cl,ls,h⟩ := h
 exact ⟨Ap,cp,Al,cl,ls,h.below hb⟩
theorem NetAtB.but {T : Nat -> Prop} {lb base bs : Nat} {w w' : World} {nb : Nat} {l : List Int} {n NP : Nat} {P : List Int} {q : Int} (h : NetAtB lb base bs w nb l n NP P q) (hb : But T w w') (hT : ∀ i,T i -> i < lb) (hs : ShapeAt w' base bs l n) : NetAtB lb base bs w' nb l n NP P q := by
 obtain ⟨Ap,cp,Al,cl,ls,h⟩ := h
 have ho : ∀ {e : TypeId} {size n : Nat} {v : Value} {xs : List Value},w.ownsRow lb e size v n xs -> w'.ownsRow lb e size v n xs := fun {e size n v xs} r => by
  refine ⟨r.1,?_⟩
  have hlt := r.lt
  rcases r.2 with r2 | ⟨g,cap,cur,rfl,hbg,hh,r3⟩
  ·exact .inl r2
  ·exact .inr ⟨g,cap,cur,rfl,hbg,(hb.block g (hlt g rfl).2 (fun e => by have := hT g e; omega)).trans hh,r3⟩
 exact ⟨Ap,cp,Al,cl,ls,(hb.block nb h.blk.lt (fun e => by have := hT nb e; have := h.nbl; omega)).trans h.blk,hs,ho h.prow,ho h.lrow,h.len,fun k s hk => ⟨ho (h.wts k s hk).1,(h.wts k s hk).2⟩,h.nbl⟩
def NetRet (base bs : Nat) (l : List Int) (n NP : Nat) (P : List Int) (q : Int) (w : World) (e : Ending) (w' : World) : Prop := ∃ nb,e = .returned (.tuple #[.pointer (some ⟨nb,0,none⟩),.bool true]) /\ NetAtB w.heap.size base bs w' nb l n NP P q /\ Below w.heap.size w w'
theorem netNew_any (base bs : Nat) (l : List Int) (n NP : Nat) (P : List Int) (q : Int) (A : Option Addr) (c : Nat) (w : World) (hN : NetP l n NP P q) (hS : ShapeAt w base bs l n) (hP : Rd w 1 A NP (iv P)) :
    Calls Tryz.prog 61 #[.pointer (some ⟨bs,0,none⟩),.slice A NP c,.int .i64 q] w (NetRet base bs l n NP P q w) := by
  have e1 : decide (q < 0) = false := decide_eq_false (by have := hN.q0; omega)
  have e2 : decide ((62 : Int) < q) = false := decide_eq_false (by have := hN.q62; omega)
  have e3 : ((NP : Int) != (NP : Int)) = false := by simp
  have hcnt : cntS l (n - 1) = (NP : Int) := by rw [hN.cnt_eq _ (by have := hN.n2; omega),hN.cnt]
  obtain ⟨m,hm⟩ : ∃ m,n - 1 = m := ⟨_,rfl⟩
  have hn2 := hN.n2
  have hn16 := hN.n16
  have hNP := hN.np
  have hpl := hN.pl
  have HC1 := hid (fun W (s : ShapeAt W base bs l n) => by
    have := shapeCount_any base bs n l W s
    rw [hcnt] at this
    exact this)
  have HC2 := hid (fun W (r : Rd W 1 A NP (iv P)) => vecClone_any A NP c P W hpl r (by omega))
  have HC3 := hid (fun W (s : ShapeAt W base bs l n) => shapeSizes_any base bs n l W s hN.len (by omega))
  have HC4 := hid (fun W (s : ShapeAt W base bs l n) => by
    have := shapeLinks_any base bs n l W s
    rw [hm] at this
    exact this)
  have HN := hid hN
  have HS := hid hS
  have HP := hid hP
  have HM := hid hm
  clear hN hS hP hcnt hm
  go_enter Tryz.func61,Tryz.ntmps61
  go_wp2_with fail
  ((with_reducible refine (HC1.out _ HS.out).mono ?_); rintro e w1 ⟨rfl,rfl⟩)
  go_wp2_with fail
  ((with_reducible refine (HC2.out _ HP.out).mono ?_); rintro e w1 ⟨Ap,cp,rfl,ho1,hb1⟩)
  have HO1 := hid ho1
  have HB1 := hid hb1
  clear ho1 hb1
  go_wp2_with fail
  have HB0 := hid (HB1.out.mono (Nat.le_refl _))
  obtain ⟨w2,hw2⟩ : ∃ w2,w1.alloc (.cells (netC bs Ap NP cp q none 0 0) 268) = w2 := ⟨_,rfl⟩
  obtain ⟨nb,hnb⟩ : ∃ nb,w1.heap.size = nb := ⟨_,rfl⟩
  have hz1 := HB1.out.size
  have hb2 : Below w.heap.size w w2 := by rw [<- hw2]; exact HB1.out.alloc hz1 _
  have hk2 : Blk w2 nb 268 (netC bs Ap NP cp q none 0 0) := by rw [<- hw2]; exact Blk.new' _ _ hnb
  have ho2 : w2.ownsRow w.heap.size 2 1 (.slice Ap NP cp) NP (iv P) := by rw [<- hw2]; exact HO1.out.alloc _
  rw [hw2,hnb]
  have HNB := hid (show w.heap.size <= nb by rw [<- hnb]; exact hz1)
  have HB2 := hid hb2
  have HK2 := hid hk2
  have HO2 := hid ho2
  clear hw2 hnb hz1 hb2 hk2 ho2 HB0 HB1 HO1
  ((with_reducible refine (HC3.out _ (HS.out.below HB2.out)).mono ?_); rintro e w3 ⟨A3,c3,rfl,ho3,hb3⟩)
  have HB3 := hid (HB2.out.trans (hb3.mono HB2.out.size))
  have HK3 := hid (HK2.out.kept hb3)
  have HO3 := hid (own_below HO2.out hb3)
  have HA3 := hid (own_base ho3 (Nat.zero_le _))
  clear ho3 hb3 HB2 HK2 HO2
  go_wp2_with fail
  ((with_reducible refine (HC4.out _ (HS.out.below HB3.out)).mono ?_); rintro e w4 ⟨rfl,rfl⟩)
  go_wp2_with fail
  go_loopw [42] (fun v wr => ∃ (k : Nat) (Al : Option Addr) (cl : Nat) (ls : List StS),k <= m /\ v = .int .i64 k /\ Blk wr nb 268 (netC bs Ap NP cp q Al k cl) /\ wr.ownsRow w.heap.size 275 4 (.slice Al k cl) k (lkV l ls) /\ ls.length = k /\ LkOk wr l P Ap cp ls w.heap.size /\ wr.ownsRow w.heap.size 2 1 (.slice Ap NP cp) NP (iv P) /\ wr.ownsRow 0 3 1 (.slice A3 n c3) n (iv l) /\ Below w.heap.size w wr) (fun v _ => m - (intOf v).toNat)
  case atStart => exact ⟨0,none,0,[],by omega,rfl,HK3.out,World.ownsRow_nil _ _ _ _,rfl,LkOk.nil _ _ _ _ _ _,HO3.out,HA3.out,HB3.out⟩
  case round =>
    obtain ⟨k,Al,cl,ls,hk,rfl,hK,hL,hll,hW,hO,hA,hB⟩ := hrel
    by_cases hlt : k < m
    · have HK := hid hK
      have HL := hid hL
      have HLL := hid hll
      have HW := hid hW
      have HO := hid hO
      have HA := hid hA
      have HB := hid hB
      have hkn : k < n - 1 := by rw [HM.out]; exact hlt
      have hmn := HM.out
      have HLT := hid hlt
      have hR := HN.out.sz (show k + 1 < n by omega)
      have hC := HN.out.sz (show k < n by omega)
      have hfit := HN.out.fit hkn
      have hob : (ofN l k : Int) + (szN l (k + 1) : Int) * (szN l k : Int) = (obN l k : Int) := by unfold obN; simp
      have HC5 : Hid (∀ W,ShapeAt W base bs l n -> Calls Tryz.prog 143 #[.pointer (some ⟨bs,0,none⟩),.int .i64 k] W fun e w' => e = .returned (.agg #[.int .i64 (ofN l k),.int .i64 (obN l k)]) /\ Below W.heap.size W w') := hid (fun W s => by
        have := shapeWeights_any base bs n k l W s hkn
        rw [HN.out.cnt_eq k (by omega),HN.out.getD (show k < n by omega),HN.out.getD (show k + 1 < n by omega),hob] at this
        exact this)
      have HC6 : Hid (∀ W,ShapeAt W base bs l n -> Calls Tryz.prog 144 #[.pointer (some ⟨bs,0,none⟩),.int .i64 k] W fun e w' => e = .returned (.agg #[.int .i64 (obN l k),.int .i64 (ofN l (k + 1))]) /\ Below W.heap.size W w') := hid (fun W s => by
        have := shapeBiases_any base bs n k l W s hkn
        rw [HN.out.cnt_eq k (by omega),HN.out.cnt_eq (k + 1) (by omega),HN.out.getD (show k < n by omega),HN.out.getD (show k + 1 < n by omega),hob] at this
        exact this)
      have HWT : Hid (wtL l P k = (P.drop (ofN l k)).take (szN l (k + 1) * szN l k)) := hid rfl
      have HLE : Hid (∀ s,lkE l k s = [.int .i64 (szN l (k + 1)),.int .i64 (szN l k),.slice s.1 (szN l (k + 1) * szN l k) s.2.1,.slice s.2.2.1 (szN l (k + 1)) s.2.2.2]) := hid (fun s => rfl)
      have HO2 : Hid (ofN l (k + 1) = obN l k + szN l (k + 1)) := hid rfl
      have HOB : Hid (obN l k = ofN l k + szN l (k + 1) * szN l k) := hid rfl
      have HSN := hid (fun (w' : World) (AV : Option Addr) (cV : Nat) (h : LkOk w' l P Ap cp ls w.heap.size) (hV : w'.ownsRow w.heap.size 2 1 (.slice AV (szN l (k + 1) * szN l k) cV) (szN l (k + 1) * szN l k) (iv (wtL l P k))) => by
        have := h.snoc (AV := AV) (cV := cV) (by rw [HLL.out]; exact hV)
        rw [HLL.out] at this
        exact this)
      have hk1 := hR.1
      have hk0 := hC.1
      generalize szN l (k + 1) = R at *
      generalize szN l k = C at *
      generalize ofN l k = o at *
      generalize obN l k = ob at *
      generalize ofN l (k + 1) = o2 at *
      obtain ⟨M,hMM⟩ : ∃ M,R * C = M := ⟨_,rfl⟩
      rw [hMM] at HWT HLE HOB HSN
      have hM1 : 1 <= M := by rw [<- hMM]; exact Nat.mul_pos hR.2.1 hC.2.1
      have hrp : RightP (R : Int) (C : Int) M := ⟨⟨by omega,by omega,by omega,by omega⟩,by rw [<- hMM]; simp⟩
      clear hK hL hll hW hO hA hB hob
      go_wp2_with fail
      ((with_reducible refine (HC5.out wr (HS.out.below HB.out)).mono ?_); rintro e w5 ⟨rfl,hb5⟩)
      have HB5 := hid (HB.out.trans (hb5.mono HB.out.size))
      have HK5 := hid (HK.out.kept hb5)
      have HL5 := hid (own_below HL.out hb5)
      have HW5 := hid (HW.out.below hb5)
      have HO5 := hid (own_below HO.out hb5)
      have HA5 := hid (own_below HA.out hb5)
      clear hb5 HK HL HW HO HA HB
      go_wp2_with fail
      ((with_reducible refine (HC6.out w5 (HS.out.below HB5.out)).mono ?_); rintro e w6 ⟨rfl,hb6⟩)
      obtain ⟨w7,hw7⟩ : ∃ w7,(w6.alloc (.cells #[.int .i64 o,.int .i64 ob] 218)).alloc (.cells #[.int .i64 ob,.int .i64 o2] 218) = w7 := ⟨_,rfl⟩
      have hb7 : Below w6.heap.size w6 w7 := by rw [<- hw7]; exact ((Below.refl _ _).alloc (Nat.le_refl _) _).alloc (by simp) _
      have hp1 : Blk w7 w6.heap.size 218 #[.int .i64 o,.int .i64 ob] := by rw [<- hw7]; exact (Blk.new _ _ _).alloc _
      have hp2 : Blk w7 (w6.heap.size + 1) 218 #[.int .i64 ob,.int .i64 o2] := by rw [<- hw7]; exact Blk.new' _ _ (by simp)
      have hb57 := hb6.trans (hb7.mono hb6.size)
      have HB7 := hid (HB5.out.trans (hb57.mono HB5.out.size))
      have HK7 := hid (HK5.out.kept hb57)
      have HL7 := hid (own_below HL5.out hb57)
      have HW7 := hid (HW5.out.below hb57)
      have HO7 := hid (own_below HO5.out hb57)
      have HA7 := hid (own_below HA5.out hb57)
      have HP1 := hid hp1
      have HP2 := hid hp2
      have HWE := hid hw7
      clear hw7 hb6 hb7 hp1 hp2 hb57 HK5 HL5 HW5 HO5 HA5 HB5
      go_wp2_with fail
      rw [HWE.out]
      clear HWE
      obtain ⟨gA,oA,rfl,lA,hcA⟩ := (Rd.of_own HA7.out).2 (by omega)
      have a0 : w7.cell? ⟨gA,oA + k,none⟩ = some (.int .i64 C) := hcA k _ (by rw [iv,List.getElem?_map,hC.1]; rfl)
      have a1 : w7.cell? ⟨gA,oA + (k + 1),none⟩ = some (.int .i64 R) := hcA (k + 1) _ (by rw [iv,List.getElem?_map,hR.1]; rfl)
      obtain ⟨k1,hk1'⟩ : ∃ k1,k + 1 = k1 := ⟨_,rfl⟩
      rw [hk1'] at a1
      have i1 : (0 : Int) <= (k : Int) := by omega
      have i2 : (k : Int) < (n : Int) := by omega
      have i3 : (0 : Int) <= (k1 : Int) := by omega
      have i4 : (k1 : Int) < (n : Int) := by omega
      have hkw : IntKind.i64.wrap ((k : Int) + 1) = (k1 : Int) := by rw [show (k : Int) + 1 = (k1 : Int) by omega]; exact IntWalk.i64_in _ (by omega)
      have HK1 := hid hk1'
      clear hk1'
      have n1 : w7.cell? ⟨nb,1,none⟩ = some (.slice Ap NP cp) := HK7.out.cell 1
      have ln := HK7.out.lt
      have p0 := HP1.out.cell 0
      have p1 := HP1.out.cell 1
      have lp := HP1.out.lt
      have hcap : NP <= cp := own_cap HO7.out
      obtain ⟨Aw,hAw⟩ : ∃ Aw,pcA_RedMove Ap cp o = Aw := ⟨_,rfl⟩
      have hsl := fun W => run_piece (P := Tryz.prog) (T := 74) (A := Ap) (n := NP) (c := cp) (e := o) (e2 := ob) (k := M) (c1 := cp - o) (P1 := Aw) Tryz.underlying74 (fun W => rfl) (by have := HOB.out; omega) (by have := HOB.out; omega) (by have := HOB.out; omega) rfl hAw W
      have hrd : Rd w7 1 Aw M (iv (wtL l P k)) := by rw [<- hAw,HWT.out]; exact pc_rd HO7.out hpl (by have := HOB.out; omega)
      have HRD := hid hrd
      have HWL : Hid ((wtL l P k).length = M) := hid (by rw [HWT.out,List.length_take,List.length_drop,hpl]; have := HOB.out; omega)
      have HOF := hid (fun W (kk : Kept w7 W) => of_right (R : Int) (C : Int) Aw M (cp - o) (wtL l P k) W hrp (by have := HOB.out; omega) HWL.out (HRD.out.below kk.2.2))
      have K7 : Kept w7 w7.drew := Kept.start w7
      have KZ : Kept w7 w7 := Kept.of (Below.refl _ _)
      clear hcA hrd hAw
      go_region_held3 (fun w' => Kept w7 w') (first | exact kk | exact ks | exact K7 | exact K7.alloc _ | exact kk.alloc _) (first
        | (go_at_call 145; (with_reducible refine (HOF.out _ (by first | exact K7 | exact (KZ.alloc _).drew | exact K7.alloc _)).mono ?_); rintro e w8 ⟨AV,cV,rfl,hov,hb8⟩; have kk : Kept w7 w8 := (by first | exact K7.call hb8 | exact ((KZ.alloc _).drew).call hb8 | exact (K7.alloc _).call hb8); have HOV := hid hov; have HKK := hid kk; try (have hz := (Blk.new w7 271 #[.int .i64 0,.int .i64 0,.slice none 0 0]).drew.kept hb8; have z0 := hz.cell 0; have z1 := hz.cell 1; have z2 := hz.cell 2; have y0 := hz.frozen 0; have y1 := hz.frozen 1; have y2 := hz.frozen 2; have lz := hz.lt; have ks : Kept w7 (((w8.setCell ⟨w7.heap.size,0,none⟩ (.int .i64 R)).setCell ⟨w7.heap.size,1,none⟩ (.int .i64 C)).setCell ⟨w7.heap.size,2,none⟩ (.slice AV M cV)) := Kept.of (((kk.2.2.setCell (p := ⟨w7.heap.size,0,none⟩) (Nat.le_refl _) _).setCell (p := ⟨w7.heap.size,1,none⟩) (Nat.le_refl _) _).setCell (p := ⟨w7.heap.size,2,none⟩) (Nat.le_refl _) _); have HZ := hid hz; clear hz); clear hov))
      all_goals first
        | (obtain ⟨w9,hw9⟩ : ∃ w9,w8.alloc (.cells #[.int .i64 R,.int .i64 C,.slice AV M cV] 271) = w9 := ⟨_,rfl⟩
           obtain ⟨mb,hmb⟩ : ∃ mb,w8.heap.size = mb := ⟨_,rfl⟩
           have hk9 : Kept w7 w9 := by rw [<- hw9]; exact HKK.out.alloc _
           have hm9 : Blk w9 mb 271 #[.int .i64 R,.int .i64 C,.slice AV M cV] := by rw [<- hw9]; exact Blk.new' _ _ hmb
           have hv9 : w9.ownsRow w.heap.size 2 1 (.slice AV M cV) M (iv (wtL l P k)) := by rw [<- hw9]; exact own_base (HOV.out.alloc _) (Nat.le_trans HB7.out.size (by first | exact K7.2.1 | exact (K7.alloc _).2.1 | exact ((KZ.alloc _).drew).2.1))
           rw [hw9,hmb]
           clear hw9 hmb)
        | (obtain ⟨hO3,hG3⟩ := set3 HZ.out (.int .i64 R) (.int .i64 C) (.slice AV M cV)
           have hv9 := own_base (HOV.out.kept hO3 (.inr (own_blk_ne HOV.out HZ.out (by decide)))) (Nat.le_trans HB7.out.size (by first | exact K7.2.1 | exact (K7.alloc _).2.1 | exact ((KZ.alloc _).drew).2.1))
           have hm9 := hG3
           have hk9 : Kept w7 _ := ks
           obtain ⟨w9,hw9⟩ : ∃ w9,(((w8.setCell ⟨w7.heap.size,0,none⟩ (.int .i64 R)).setCell ⟨w7.heap.size,1,none⟩ (.int .i64 C)).setCell ⟨w7.heap.size,2,none⟩ (.slice AV M cV)) = w9 := ⟨_,rfl⟩
           obtain ⟨mb,hmb⟩ : ∃ mb,w7.heap.size = mb := ⟨_,rfl⟩
           rw [hw9] at hv9 hm9 hk9 ⊢
           rw [hmb] at hm9 ⊢
           clear hO3 hG3 hw9 hmb ks z0 z1 z2 y0 y1 y2 lz HZ)
      all_goals have HB9 := hid (HB7.out.trans (hk9.2.2.mono HB7.out.size))
      all_goals have HK9 := hid (HK7.out.kept hk9.2.2)
      all_goals have HL9 := hid (own_below HL7.out hk9.2.2)
      all_goals have HW9 := hid (HW7.out.below hk9.2.2)
      all_goals have HO9 := hid (own_below HO7.out hk9.2.2)
      all_goals have HA9 := hid (own_below HA7.out hk9.2.2)
      all_goals have HP9 := hid (HP2.out.kept hk9.2.2)
      all_goals have HM9 := hid hm9
      all_goals have HV9 := hid hv9
      all_goals clear hk9 hm9 hv9 kk a0 a1 n1 ln p0 p1 lp hsl K7 KZ HK7 HL7 HW7 HO7 HA7 HB7 HP1 HP2 HKK HOV HOF HRD
      all_goals (
        have hAb : ∃ Ab,pcA_RedMove Ap cp ob = Ab := ⟨_,rfl⟩
        obtain ⟨Ab,hAb⟩ := hAb
        have hsl2 := fun W => run_piece (P := Tryz.prog) (T := 74) (A := Ap) (n := NP) (c := cp) (e := ob) (e2 := o2) (k := R) (c1 := cp - ob) (P1 := Ab) Tryz.underlying74 (fun W => rfl) (by have := HO2.out; omega) (by have := HO2.out; omega) (by have := HO2.out; omega) rfl hAb W
        have HAB := hid hAb
        clear hAb
        go_wp2_with fail
        refine wp_region_early (fun W => Blk W nb 268 (netC bs Ap NP cp q Al k cl) /\ Blk W mb 271 #[.int .i64 R,.int .i64 C,.slice AV M cV] /\ Blk W (w6.heap.size + 1) 218 #[.int .i64 ob,.int .i64 o2]) [0,1,2,3,4,5,6,7,8,9,10,11,12,13,14,15] [16,17] [18,19,20] (by kernel_rfl) (by kernel_rfl) (⟨HK9.out.drew,HM9.out.drew,HP9.out.drew⟩) ?_
        simp only [List.filterMap_cons,List.filterMap_nil,List.getElem?_cons_succ,List.getElem?_cons_zero]
        refine early_step (.pointer (some ⟨nb,0,none⟩)) rfl (fun W hW => ?_) ?_
        · obtain ⟨hx,hy,hp⟩ := hW
          have x1 := hx.cell 1
          have x3 := hx.cell 3
          have y0 := hy.cell 0
          have y1 := hy.cell 1
          have y2 := hy.cell 2
          have r0 := hp.cell 0
          have r1 := hp.cell 1
          go_simp
        go_simp
        refine early_step (.pointer (some ⟨nb,0,none⟩)) rfl (fun W hW => ?_) ?_
        · obtain ⟨hx,hy,hp⟩ := hW
          have x1 := hx.cell 1
          have x3 := hx.cell 3
          have y0 := hy.cell 0
          have y1 := hy.cell 1
          have y2 := hy.cell 2
          have r0 := hp.cell 0
          have r1 := hp.cell 1
          go_simp
        go_simp
        refine early_step (.pointer (some ⟨nb,0,none⟩)) rfl (fun W hW => ?_) ?_
        · obtain ⟨hx,hy,hp⟩ := hW
          have x1 := hx.cell 1
          have x3 := hx.cell 3
          have y0 := hy.cell 0
          have y1 := hy.cell 1
          have y2 := hy.cell 2
          have r0 := hp.cell 0
          have r1 := hp.cell 1
          go_simp
        go_simp
        refine early_step (.pointer (some ⟨nb,3,none⟩)) rfl (fun W hW => ?_) ?_
        · obtain ⟨hx,hy,hp⟩ := hW
          have x1 := hx.cell 1
          have x3 := hx.cell 3
          have y0 := hy.cell 0
          have y1 := hy.cell 1
          have y2 := hy.cell 2
          have r0 := hp.cell 0
          have r1 := hp.cell 1
          go_simp
        go_simp
        refine early_step (.slice Al k cl) rfl (fun W hW => ?_) ?_
        · obtain ⟨hx,hy,hp⟩ := hW
          have x1 := hx.cell 1
          have x3 := hx.cell 3
          have y0 := hy.cell 0
          have y1 := hy.cell 1
          have y2 := hy.cell 2
          have r0 := hp.cell 0
          have r1 := hp.cell 1
          go_simp
        go_simp
        refine early_step (.agg #[.int .i64 R,.int .i64 C,.slice AV M cV]) rfl (fun W hW => ?_) ?_
        · obtain ⟨hx,hy,hp⟩ := hW
          have x1 := hx.cell 1
          have x3 := hx.cell 3
          have y0 := hy.cell 0
          have y1 := hy.cell 1
          have y2 := hy.cell 2
          have r0 := hp.cell 0
          have r1 := hp.cell 1
          go_simp
        go_simp
        refine early_step (.pointer (some ⟨nb,0,none⟩)) rfl (fun W hW => ?_) ?_
        · obtain ⟨hx,hy,hp⟩ := hW
          have x1 := hx.cell 1
          have x3 := hx.cell 3
          have y0 := hy.cell 0
          have y1 := hy.cell 1
          have y2 := hy.cell 2
          have r0 := hp.cell 0
          have r1 := hp.cell 1
          go_simp
        go_simp
        refine early_step (.pointer (some ⟨nb,0,none⟩)) rfl (fun W hW => ?_) ?_
        · obtain ⟨hx,hy,hp⟩ := hW
          have x1 := hx.cell 1
          have x3 := hx.cell 3
          have y0 := hy.cell 0
          have y1 := hy.cell 1
          have y2 := hy.cell 2
          have r0 := hp.cell 0
          have r1 := hp.cell 1
          go_simp
        go_simp
        refine early_step (.pointer (some ⟨nb,1,none⟩)) rfl (fun W hW => ?_) ?_
        · obtain ⟨hx,hy,hp⟩ := hW
          have x1 := hx.cell 1
          have x3 := hx.cell 3
          have y0 := hy.cell 0
          have y1 := hy.cell 1
          have y2 := hy.cell 2
          have r0 := hp.cell 0
          have r1 := hp.cell 1
          go_simp
        go_simp
        refine early_step (.slice Ap NP cp) rfl (fun W hW => ?_) ?_
        · obtain ⟨hx,hy,hp⟩ := hW
          have x1 := hx.cell 1
          have x3 := hx.cell 3
          have y0 := hy.cell 0
          have y1 := hy.cell 1
          have y2 := hy.cell 2
          have r0 := hp.cell 0
          have r1 := hp.cell 1
          go_simp
        go_simp
        refine early_step (.pointer (some ⟨w6.heap.size + 1,0,none⟩)) rfl (fun W hW => ?_) ?_
        · obtain ⟨hx,hy,hp⟩ := hW
          have x1 := hx.cell 1
          have x3 := hx.cell 3
          have y0 := hy.cell 0
          have y1 := hy.cell 1
          have y2 := hy.cell 2
          have r0 := hp.cell 0
          have r1 := hp.cell 1
          go_simp
        go_simp
        refine early_step (.int .i64 ob) rfl (fun W hW => ?_) ?_
        · obtain ⟨hx,hy,hp⟩ := hW
          have x1 := hx.cell 1
          have x3 := hx.cell 3
          have y0 := hy.cell 0
          have y1 := hy.cell 1
          have y2 := hy.cell 2
          have r0 := hp.cell 0
          have r1 := hp.cell 1
          go_simp
        go_simp
        refine early_step (.pointer (some ⟨w6.heap.size + 1,1,none⟩)) rfl (fun W hW => ?_) ?_
        · obtain ⟨hx,hy,hp⟩ := hW
          have x1 := hx.cell 1
          have x3 := hx.cell 3
          have y0 := hy.cell 0
          have y1 := hy.cell 1
          have y2 := hy.cell 2
          have r0 := hp.cell 0
          have r1 := hp.cell 1
          go_simp
        go_simp
        refine early_step (.int .i64 o2) rfl (fun W hW => ?_) ?_
        · obtain ⟨hx,hy,hp⟩ := hW
          have x1 := hx.cell 1
          have x3 := hx.cell 3
          have y0 := hy.cell 0
          have y1 := hy.cell 1
          have y2 := hy.cell 2
          have r0 := hp.cell 0
          have r1 := hp.cell 1
          go_simp
        go_simp
        refine early_step (.slice Ab R (cp - ob)) rfl (fun W hW => ?_) ?_
        · obtain ⟨hx,hy,hp⟩ := hW
          have x1 := hx.cell 1
          have x3 := hx.cell 3
          have y0 := hy.cell 0
          have y1 := hy.cell 1
          have y2 := hy.cell 2
          have r0 := hp.cell 0
          have r1 := hp.cell 1
          go_simp
        go_simp
        refine early_step (.agg #[.int .i64 R,.int .i64 C,.slice AV M cV,.slice Ab R (cp - ob)]) rfl (fun W hW => ?_) ?_
        · obtain ⟨hx,hy,hp⟩ := hW
          have x1 := hx.cell 1
          have x3 := hx.cell 3
          have y0 := hy.cell 0
          have y1 := hy.cell 1
          have y2 := hy.cell 2
          have r0 := hp.cell 0
          have r1 := hp.cell 1
          go_simp
        go_simp
        change RestW _ _ _ _ _ (_ :: _ :: []) _ _
        unfold RestW
        go_wp2_with fail
        refine ⟨⟨HK9.out.drew.alloc _,HM9.out.drew.alloc _,HP9.out.drew.alloc _⟩,?_⟩
        unfold RestW
        change wpList _ _ _ (_ :: []) _ (w9.drew.alloc (.cells #[.int .i64 R,.int .i64 C,.slice AV M cV,.slice Ab R (cp - ob)] 275))
        go_wp2_with (at_builtin; go_must (refine wpList_pushL (w := w9.drew) slLink rfl _ _ rfl w.heap.size (.slice Al k cl) k (lkV l ls) rfl (show w9.drew.ownsRow w.heap.size 275 4 (.slice Al k cl) k (lkV l ls) from HL9.out) #[.int .i64 R,.int .i64 C,.slice AV M cV,.slice Ab R (cp - ob)] w9.drew.heap.size rfl rfl rfl (by intro u hu; simp at hu; rcases hu with rfl | rfl | rfl | rfl <;> rfl) (by unfold maxLen; omega) (by omega) HB9.out.size ?_); go_must (intro A' c' wa hown' hb' hgr' hat'))
        have hg10 : w9.grownBy wa (Value.slice Al k cl).ownBlock := gr_below_first ((Below.refl w9.heap.size w9).drew) hgr'
        have HK10 := hid (HK9.out.other HL9.out hg10 (by decide))
        have HM10 := hid (HM9.out.other HL9.out hg10 (by decide))
        have HP10 := hid (HP9.out.other HL9.out hg10 (by decide))
        have HS10 := hid (Stay.of_own (t := 268) HL9.out hg10)
        have HL10 : Hid (wa.ownsRow w.heap.size 275 4 (.slice A' (k + 1) c') (k + 1) (lkV l (ls ++ [(AV,cV,Ab,cp - ob)]))) := hid (by rw [lkV_snoc,HLL.out,HLE.out]; exact hown')
        have HB10 := hid ((HB9.out.drew).trans hb')
        have hz10 := hg10.size
        clear hown' hb' hgr' hat' hg10
        refine ⟨⟨HK10.out,HM10.out,HP10.out⟩,?_⟩
        unfold RestW
        change wpList _ _ _ (_ :: _ :: _ :: []) _ _
        have v3 : wa.cell? ⟨nb,3,none⟩ = some (.slice Al k cl) := HK10.out.cell 3
        have f3 := HK10.out.frozen 3
        have l10 := HK10.out.lt
        go_wp2_with fail
        refine NoPanic.normal ?_
        have hg11 := gr_set (p := ⟨nb,3,none⟩) (World.grownBy.refl wa (some nb)) (.inl rfl) (.slice A' (k + 1) c')
        have HK11 : Hid (Blk (wa.setCell ⟨nb,3,none⟩ (.slice A' (k + 1) c')) nb 268 (netC bs Ap NP cp q A' (k + 1) c')) := hid (HK10.out.set_ 3 (.slice A' (k + 1) c'))
        have HS11 := hid (HS10.out.trans (Stay.of_gr (u := 275) HK10.out hg11))
        have HL11 := hid (HL10.out.kept hg11 (.inr (own_blk_ne HL10.out HK10.out (by decide))))
        have HB11 := hid (below_gr HB10.out (Nat.le_trans HB9.out.size hz10) hg11 HNB.out)
        obtain ⟨wb,hwb⟩ : ∃ wb,wa.setCell ⟨nb,3,none⟩ (.slice A' (k + 1) c') = wb := ⟨_,rfl⟩
        rw [hwb] at hg11 HK11 HS11 HL11 HB11 ⊢
        have hz11 : w9.heap.size <= wb.heap.size := Nat.le_trans hz10 hg11.size
        have HZ11 := hid hz11
        clear hwb hg11 hz11 v3 f3 l10 HK10 HM10 HP10 HS10 HL10 HB10 hsl2
        go_wp2_with fail
        go_roundw
        case rel =>
          refine ⟨k + 1,A',c',ls ++ [(AV,cV,Ab,cp - ob)],HLT.out,by rw [HK1.out],HK11.out,HL11.out,by simp [HLL.out],?_,HS11.out.own HZ11.out HO9.out (by decide) (by decide),HS11.out.own HZ11.out HA9.out (by decide) (by decide),HB11.out⟩
          rw [<- HAB.out]
          exact HSN.out wb AV cV (HW9.out.stay HS11.out HZ11.out (by decide) (by decide)) (HS11.out.own HZ11.out HV9.out (by decide) (by decide))
        case measure => simp [intOf]; have := HLT.out; have := HK1.out; omega)
    · obtain rfl : k = m := by omega
      have HK := hid hK
      have HL := hid hL
      have HLL := hid hll
      have HW := hid hW
      have HO := hid hO
      have HB := hid hB
      clear hK hL hll hW hO hA hB
      go_wp2_with fail
      go_ret2
      have hm := HM.out
      subst hm
      exact ⟨nb,rfl,⟨Ap,cp,Al,cl,ls,HK.out,HS.out.below HB.out,HO.out,HL.out,HLL.out,HW.out,HNB.out⟩,HB.out⟩
def gateV (a g : Int) : Int := if 0 < a then g else 0
theorem relu_any (a : Int) (w : World) : Calls Tryz.prog 248 #[.int .i64 a] w fun e w' => e = .returned (.int .i64 (gateV a a)) /\ w = w' := by
 unfold gateV
 go_enter Tryz.func248,Tryz.ntmps248
 by_cases h : 0 < a
 ·rw [if_pos h]
  go_wp2
  all_goals (go_ret; exact ⟨ret_int (by omega),rfl⟩)
 ·rw [if_neg h]
  go_wp2
  all_goals (go_ret; exact ⟨ret_int (by omega),rfl⟩)
theorem gate_any (a g : Int) (w : World) : Calls Tryz.prog 169 #[.int .i64 a,.int .i64 g] w fun e w' => e = .returned (.int .i64 (gateV a g)) /\ w = w' := by
 unfold gateV
 by_cases h : 0 < a
 ·rw [if_pos h]
  go_enter Tryz.func169,Tryz.ntmps169
  go_wp2
  go_ret
  exact ⟨rfl,rfl⟩
 ·rw [if_neg h]
  go_enter Tryz.func169,Tryz.ntmps169
  go_wp2
  go_ret
  exact ⟨rfl,rfl⟩
theorem refGate_any (a g : Int) (w : World) : Calls Tryz.prog 224 #[.int .i64 a,.int .i64 g] w fun e w' => e = .returned (.int .i64 (gateV a g)) /\ w = w' := by
 unfold gateV
 by_cases h : 0 < a
 ·rw [if_pos h]
  go_enter Tryz.func224,Tryz.ntmps224
  go_wp2
  go_ret
  exact ⟨rfl,rfl⟩
 ·rw [if_neg h]
  go_enter Tryz.func224,Tryz.ntmps224
  go_wp2
  go_ret
  exact ⟨rfl,rfl⟩
theorem sub_any (a g : Int) (w : World) : Calls Tryz.prog 204 #[.int .i64 a,.int .i64 g] w fun e w' => e = .returned (.int .i64 (wrap64 (a - g))) /\ w = w' := by
 go_enter Tryz.func204,Tryz.ntmps204
 go_wp2
 go_ret
 exact ⟨ret_int (by unfold wrap64; omega),rfl⟩
end
end Go.Proofs.YtkmaeipoaoikpaaGreat
