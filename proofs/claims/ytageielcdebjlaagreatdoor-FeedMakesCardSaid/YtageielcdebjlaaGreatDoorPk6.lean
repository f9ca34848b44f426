/- Events in memory; feed.check and timetableref40.faultBehind: their contracts. Blocks and rows in memory: what a store, an append and a draw of the dice leave as it was. No function of the program in sight. Condition: none. -/
import Derived.Test.YtageielcdebjlaaGreatDoorPk5
import Derived.Maps.AppendAt
import Derived.Deep.RegionHeld3
namespace Go.Proofs.YtageielcdebjlaaGreatDoor
open Go.RowKit
def evCells (e : Ev) (v v' : Value) : Array Value:=#[.string e.uid,.int .i64 e.seq,.bool e.canc,.int .i64 e.days.first,.int .i64 e.days.last,.int .i64 e.days.every,.int .i64 e.days.wd,v,v',.int .i64 e.start,.int .i64 e.mins,.string e.summ,.string e.loc]
def evVal (e : Ev) (v v' : Value) : Value:=.agg (evCells e v v')
def EvBox (b : Nat) (e : Ev) (v v' : Value) (w : World) : Prop:=w.heap[b]? = some (.cells (evCells e v v') 82 (0,0))
theorem EvBox.lt {b : Nat} {e : Ev} {v v' : Value} {w : World} (h : EvBox b e v v' w) : b < w.heap.size:=(Array.getElem?_eq_some_iff.1 h).1
theorem EvBox.block {b : Nat} {e : Ev} {v v' : Value} {w w' : World} (h : EvBox b e v v' w) (hw : w'.heap[b]? = w.heap[b]?) : EvBox b e v v' w':=hw.trans h
structure EvC (b p : Nat) (e : Ev) (v v' : Value) (w : World) : Prop where
 c0 : w.cell? ⟨b,p,none⟩ = some (.string e.uid)
 c1 : w.cell? ⟨b,p + 1,none⟩ = some (.int .i64 e.seq)
 c2 : w.cell? ⟨b,p + 2,none⟩ = some (.bool e.canc)
 c3 : w.cell? ⟨b,p + 3,none⟩ = some (.int .i64 e.days.first)
 c4 : w.cell? ⟨b,p + 4,none⟩ = some (.int .i64 e.days.last)
 c5 : w.cell? ⟨b,p + 5,none⟩ = some (.int .i64 e.days.every)
 c6 : w.cell? ⟨b,p + 6,none⟩ = some (.int .i64 e.days.wd)
 c7 : w.cell? ⟨b,p + 7,none⟩ = some v
 c8 : w.cell? ⟨b,p + 8,none⟩ = some v'
 c9 : w.cell? ⟨b,p + 9,none⟩ = some (.int .i64 e.start)
 c10 : w.cell? ⟨b,p + 10,none⟩ = some (.int .i64 e.mins)
 c11 : w.cell? ⟨b,p + 11,none⟩ = some (.string e.summ)
 c12 : w.cell? ⟨b,p + 12,none⟩ = some (.string e.loc)
theorem EvBox.c {b : Nat} {e : Ev} {v v' : Value} {w : World} (h : EvBox b e v v' w) : EvC b 0 e v v' w:=by
 constructor <;> (rw [Lib.cell_of_heap h];rfl)
theorem ownsRow_len {w : World} {B : Nat} {e : TypeId} {k : Nat} {v : Value} {n : Nat} {xs : List Value} (h : w.ownsRow B e k v n xs) : ∃ p c,v = .slice p n c:=by
 rcases h.2 with ⟨rfl,h0⟩ | ⟨g,cap,cur,rfl,_⟩
 ·subst h0;exact ⟨_,_,rfl⟩
 ·exact ⟨_,_,rfl⟩
theorem checkV_range (e : Ev) (v : Int) (h : e.seq < 1 ∨ v < e.seq) : checkV e v = 3:=by unfold checkV;rw [if_pos h]
theorem checkV_ser (e : Ev) (v : Int) (h : ¬ (e.seq < 1 ∨ v < e.seq)) (h2 : Tt.serV e.days ≠ 0) : checkV e v = Tt.serV e.days:=by unfold checkV;rw [if_neg h,if_pos h2]
theorem checkV_empty (e : Ev) (v : Int) (h : ¬ (e.seq < 1 ∨ v < e.seq)) (h2 : Tt.serV e.days = 0) (h3 : Tt.serDays e.days = []) : checkV e v = 16:=by unfold checkV;rw [if_neg h,if_neg (by simp [h2]),if_pos h3]
theorem checkV_time (e : Ev) (v : Int) (h : ¬ (e.seq < 1 ∨ v < e.seq)) (h2 : Tt.serV e.days = 0) (h3 : Tt.serDays e.days ≠ []) :
  checkV e v = if e.start < 0 ∨ 1440 <= e.start ∨ e.mins < 1 ∨ 1440 < e.mins then 14
   else if e.summ.size = 0 ∨ Tt.labB e.summ.data.toList = false ∨ Tt.labB e.loc.data.toList = false then 4 else 0:=by unfold checkV;rw [if_neg h,if_neg (by simp [h2]),if_neg h3]
theorem nonempty_list (x : ByteArray) (h : x.size ≠ 0) : x.toList.isEmpty = false:=by
 rw [Lib.toList_data];cases hx : x.data.toList with
 | nil => exact absurd (by rw [Lib.size_eq,hx];rfl) h
 | cons c t => rfl
theorem empty_list (x : ByteArray) (h : x.size = 0) : x.toList = []:=by
 rw [Lib.toList_data];exact List.eq_nil_of_length_eq_zero (by rw [<- Lib.size_eq];exact h)
set_option maxHeartbeats 8000000 in
set_option maxRecDepth 100000 in
theorem check96 (e : Ev) (v : Int) (B : Nat) (w : World) (ao ao' : Option Addr) (c c' : Nat) (hB : B <= w.heap.size) (hI : Ints B w ao e.days.ex) (hI' : Ints B w ao' e.days.xt) (hn : e.days.ex.length <= 4611686018427387903) (hn2 : e.days.xt.length <= 4611686018427387903) (hs : e.summ.size <= 4611686018427387904) (hl : e.loc.size <= 4611686018427387904) :
  Calls Tryz.prog 96 #[evVal e (.slice ao e.days.ex.length c) (.slice ao' e.days.xt.length c'),.int .i64 v] w fun x w' => x = .returned (.int .i64 (checkV e v)) /\ Below w.heap.size w w':=by
 have HI:=Lh hI;have HI':=Lh hI';have S0 : EvBox w.heap.size e (.slice ao e.days.ex.length c) (.slice ao' e.days.xt.length c') (w.alloc (.cells (evCells e (.slice ao e.days.ex.length c) (.slice ao' e.days.xt.length c')) 82)):=heap_alloc_new w _;have HS0:=Lh S0;clear hI hI' S0;unfold evCells at HS0;unfold evVal evCells;by_cases h1 : e.seq < 1 ∨ v < e.seq
 ·have HE:=Lh (checkV_range e v h1);rcases h1 with h1 | h1
  ·go_enter Tryz.func96,Tryz.ntmps96;go_wp2_with fail;go_ret;exact ⟨ret_int HE.out.symm,below_box _ _⟩
  ·by_cases h2 : e.seq < 1
   all_goals
    go_enter Tryz.func96,Tryz.ntmps96;go_wp2_with fail;go_ret;exact ⟨ret_int HE.out.symm,below_box _ _⟩
 ·have k1 : 1 <= e.seq:=by omega
  have k2 : e.seq <= v:=by omega
  have H1:=Lh h1;clear h1;go_enter Tryz.func96,Tryz.ntmps96;go_wp2_with fail;refine (valid145_any e.days B _ hn hn2 ao ao' c c' (by simp;omega) (HI.out.below ((below_box w _).mono hB)) (HI'.out.below ((below_box w _).mono hB))).mono ?_;rintro x w1 ⟨rfl,hb1⟩;have hbe1:=below_then (below_box w _) hb1;have HA1:=Lh (EvBox.block (e:=e) HS0.out (hb1.block _ (by simp)));clear hb1;by_cases hv : Tt.serV e.days = 0
  ·rw [hv];have HC1:=HA1.out.c;obtain ⟨c0,c1,c2,c3,c4,c5,c6,c7,c8,c9,c10,c11,c12⟩:=HC1;have HV:=Lh hv;clear hv;go_wp2_with fail;refine (days74 e.days B _ hn hn2 ao ao' c c' (Nat.le_trans hB hbe1.size) (HI.out.below (hbe1.mono hB)) (HI'.out.below (hbe1.mono hB))).mono ?_;rintro x w2 ⟨u,rfl,hown,hb2⟩;obtain ⟨q1,q2,hu⟩:=ownsRow_len hown;subst hu;have hbe2:=below_then hbe1 hb2;have HA2:=Lh (HA1.out.block (hb2.block _ HA1.out.lt));clear hb2 hown c0 c1 c2 c3 c4 c5 c6 c7 c8 c9 c10 c11 c12 HA1 hbe1;obtain ⟨c0,c1,c2,c3,c4,c5,c6,c7,c8,c9,c10,c11,c12⟩:=HA2.out.c;by_cases hd : Tt.serDays e.days = []
   ·have HE:=Lh (checkV_empty e v H1.out HV.out hd);have hlen : (Tt.serDays e.days).length = 0:=by rw [hd];rfl
    rw [hlen];clear hd hlen;go_wp2_with fail;go_ret;exact ⟨ret_int HE.out.symm,hbe2⟩
   ·have HE:=Lh (checkV_time e v H1.out HV.out hd);obtain ⟨n,hlen⟩ : ∃ n,(Tt.serDays e.days).length = n + 1:=⟨(Tt.serDays e.days).length - 1,by have:=List.length_pos_iff.2 hd;omega⟩
    rw [hlen];clear hd hlen;by_cases ht : e.start < 0 ∨ 1440 <= e.start ∨ e.mins < 1 ∨ 1440 < e.mins
    ·have HE2:=Lh (HE.out.trans (if_pos ht));clear HE;go_wp2_with fail
     all_goals first
      | (go_ret;exact ⟨ret_int HE2.out.symm,hbe2⟩)
      | (exfalso;omega)
    ·have HE2:=Lh (HE.out.trans (if_neg ht));have t1 : ¬ e.start < 0:=by omega
     have t2 : ¬ 1440 <= e.start:=by omega
     have t3 : ¬ e.mins < 1:=by omega
     have t4 : ¬ 1440 < e.mins:=by omega
     clear HE ht;by_cases hz : e.summ.size = 0
     ·have HE3:=Lh (HE2.out.trans (if_pos (.inl hz)));have hz1:=empty_list _ hz;have hz2 : (!e.summ.toList.isEmpty) = false:=by rw [hz1];rfl
      clear hz;go_wp2_with fail;go_ret;exact ⟨ret_int HE3.out.symm,hbe2⟩
     ·have hz1:=nonempty_list _ hz;have HZ:=Lh hz;clear hz;go_wp2_with fail;refine (label167 e.summ _ hs).mono ?_;rintro x w3 ⟨rfl,hw3⟩;have hbe3:=below_then hbe2 hw3;have HA3:=Lh (HA2.out.block (hw3.block _ HA2.out.lt));clear c0 c1 c2 c3 c4 c5 c6 c7 c8 c9 c10 c11 c12 HA2 hbe2 hw3;obtain ⟨c0,c1,c2,c3,c4,c5,c6,c7,c8,c9,c10,c11,c12⟩:=HA3.out.c;cases hl1 : Tt.labB e.summ.data.toList
      ·have HE3:=Lh (HE2.out.trans (if_pos (.inr (.inl hl1))));clear hl1;go_wp2_with fail;go_ret;exact ⟨ret_int HE3.out.symm,hbe3⟩
      ·have HL1:=Lh hl1;clear hl1;go_wp2_with fail;refine (label167 e.loc _ hl).mono ?_;rintro x w4 ⟨rfl,hw4⟩;have hbe4:=below_then hbe3 hw4;cases hl2 : Tt.labB e.loc.data.toList
       ·have HE3:=Lh (HE2.out.trans (if_pos (.inr (.inr hl2))));clear hl2;go_wp2_with fail;go_ret;exact ⟨ret_int HE3.out.symm,hbe4⟩
       ·have HE3:=Lh (HE2.out.trans (if_neg (by rw [hl2,HL1.out];simp [HZ.out])));clear hl2;go_wp2_with fail;go_ret;exact ⟨ret_int HE3.out.symm,hbe4⟩
  ·have HE:=Lh (checkV_ser e v H1.out hv);have hv2 : (Tt.serV e.days != 0) = true:=by simp [hv]
   clear hv;go_wp2_with fail;go_ret;exact ⟨ret_int HE.out.symm,hbe1⟩
def Blk (g : Nat) (cs : Array Value) (ty : TypeId) (w : World) : Prop:=w.heap[g]? = some (.cells cs ty (0,0))
theorem Blk.lt {g : Nat} {cs : Array Value} {ty : TypeId} {w : World} (h : Blk g cs ty w) : g < w.heap.size:=(Array.getElem?_eq_some_iff.1 h).1
theorem Blk.new (w : World) (cs : Array Value) (ty : TypeId) : Blk w.heap.size cs ty (w.alloc (.cells cs ty)):=heap_alloc_new w _
theorem Blk.alloc {g : Nat} {cs : Array Value} {ty : TypeId} {w : World} (h : Blk g cs ty w) (o : Obj) : Blk g cs ty (w.alloc o):=(Lib.alloc_old w o g h.lt).trans h
theorem Blk.cell {g : Nat} {cs : Array Value} {ty : TypeId} {w : World} (h : Blk g cs ty w) (i : Nat) : w.cell? ⟨g,i,none⟩ = cs[i]?:=by rw [Lib.cell_of_heap h]
theorem Blk.frozen {g : Nat} {cs : Array Value} {ty : TypeId} {w : World} (h : Blk g cs ty w) (i : Nat) : w.frozen? ⟨g,i,none⟩ = false:=by simp [World.frozen?,show w.heap[g]? = _ from h]
theorem Blk.set {g : Nat} {cs : Array Value} {ty : TypeId} {w : World} (h : Blk g cs ty w) (i : Nat) (u : Value) : Blk g (cs.setIfInBounds i u) ty (w.setCell ⟨g,i,none⟩ u):=by
 unfold Blk at h ⊢;simp [World.setCell,Array.getElem?_modify,h]
theorem Blk.set_other {g g' : Nat} {cs : Array Value} {ty : TypeId} {w : World} (h : Blk g cs ty w) (hne : g ≠ g') (i : Nat) (u : Value) : Blk g cs ty (w.setCell ⟨g',i,none⟩ u) :=
 (Below.heap_setCell _ _ _ _ hne).trans h
theorem Blk.only {b g : Nat} {cs : Array Value} {ty : TypeId} {w w' : World} (h : Blk g cs ty w) (ho : Only b w w') (hne : g ≠ b) : Blk g cs ty w':=(ho.2.2.2.2 g hne).trans h
theorem Blk.but {b g : Nat} {cs : Array Value} {ty : TypeId} {w w' : World} (h : Blk g cs ty w) (ho : But b w.heap.size w w') (hne : g ≠ b) : Blk g cs ty w':=(ho.block g h.lt hne).trans h
theorem Blk.below {B g : Nat} {cs : Array Value} {ty : TypeId} {w w' : World} (h : Blk g cs ty w) (ho : Below B w w') (hB : g < B) : Blk g cs ty w':=(ho.block g hB).trans h
theorem Blk.draw {g : Nat} {cs : Array Value} {ty : TypeId} {w : World} (h : Blk g cs ty w) : Blk g cs ty w.drew:=h
theorem Blk.grown {g : Nat} {cs : Array Value} {ty : TypeId} {w w' : World} (h : Blk g cs ty w) {B n k : Nat} {e : TypeId} {v : Value} {xs : List Value} (hown : w.ownsRow B e k v n xs) (hg : w.grownBy w' v.ownBlock) (hte : ty ≠ e) : Blk g cs ty w':=by
 refine (hg.block g h.lt ?_).trans h;intro e1;rcases hown.2 with ⟨rfl,_⟩ | ⟨g',cap,cur,rfl,_,hgb,_⟩
 ·cases e1
 ·simp only [Value.ownBlock,Option.some.injEq] at e1;subst e1;rw [show w.heap[g]? = _ from h] at hgb;simp only [Option.some.injEq,Obj.cells.injEq] at hgb;exact hte hgb.2.1
theorem Blk.ne {g g' : Nat} {cs cs' : Array Value} {ty ty' : TypeId} {w : World} (h : Blk g cs ty w) (h' : Blk g' cs' ty' w) (hne : ty ≠ ty') : g ≠ g':=by
 intro e;subst e;have h' : some (Obj.cells cs ty (0,0)) = some (.cells cs' ty' (0,0)):=(show w.heap[g]? = _ from h).symm.trans h';simp only [Option.some.injEq,Obj.cells.injEq] at h';exact hne h'.2.1
theorem row_set {w : World} {B k : Nat} {e : TypeId} {v : Value} {n : Nat} {xs : List Value} (h : w.ownsRow B e k v n xs) {g : Nat} {cs : Array Value} {ty : TypeId} (hg : Blk g cs ty w) (hte : ty ≠ e) (i : Nat) (u : Value) : (w.setCell ⟨g,i,none⟩ u).ownsRow B e k v n xs:=by
 refine ⟨h.1,?_⟩;rcases h.2 with h1 | ⟨g',cap,cur,r1,r2,r3,r4⟩
 ·exact .inl h1
 ·exact .inr ⟨g',cap,cur,r1,r2,(Below.heap_setCell _ _ _ _ (Ne.symm (hg.ne (ty':=e) r3 hte))).trans r3,r4⟩
theorem row_apart_ty {w : World} {B B' k k' : Nat} {e e' : TypeId} {v v' : Value} {n n' : Nat} {xs xs' : List Value} (h : w.ownsRow B e k v n xs) (h' : w.ownsRow B' e' k' v' n' xs') (hte : e ≠ e') : v.ownBlock = none ∨ v.ownBlock ≠ v'.ownBlock:=by
 rcases h.2 with ⟨rfl,_⟩ | ⟨g,cap,cur,rfl,_,hgb,_⟩
 ·exact .inl rfl
 ·right
  rcases h'.2 with ⟨rfl,_⟩ | ⟨g',cap',cur',rfl,_,hgb',_⟩
  ·simp [Value.ownBlock]
  ·simp only [Value.ownBlock,ne_eq,Option.some.injEq];exact Blk.ne (w:=w) hgb hgb' hte
theorem but_set {b B g i : Nat} {w w1 : World} {u : Value} (h : But b B w w1) (hg : B <= g) : But b B w (w1.setCell ⟨g,i,none⟩ u):=h.trans (But.of_below ((Below.refl _ w1).setCell hg _))
theorem but_alloc {b B : Nat} {w w1 : World} (h : But b B w w1) (hB : B <= w1.heap.size) (o : Obj) : But b B w (w1.alloc o):=h.trans (But.of_below ((Below.refl _ w1).alloc hB _))
theorem but_only {b B : Nat} {w w1 w2 : World} (h : But b B w w1) (ho : Only b w1 w2) : But b B w w2:=h.trans ho.but
theorem but_then {b B : Nat} {w w1 w2 : World} (h : But b B w w1) (k : But b w1.heap.size w1 w2) (hB : B <= w1.heap.size) : But b B w w2:=h.trans ⟨k.os,k.tape,k.output,k.size,fun i hi hne => k.block i (Nat.lt_of_lt_of_le hi hB) hne⟩
theorem but_grown {b B n k : Nat} {w w1 w2 : World} {e : TypeId} {v : Value} {xs : List Value} (h : But b B w w1) (hown : w1.ownsRow B e k v n xs) (hB : B <= w1.heap.size) (hg : w1.grownBy w2 v.ownBlock) : But b B w w2 :=
 h.trans (But.of_below ((Below.refl _ w1).grown hg hB (fun k hk => (hown.lt k hk).1)))
theorem dice_set {b g i : Nat} {w : World} {u : Value} (h : Dice b w) (hg : b < g) : Dice b (w.setCell ⟨g,i,none⟩ u):=h.kept (Nat.lt_succ_self b) ((Below.refl _ w).setCell hg _)
theorem dice_alloc {b : Nat} {w : World} (h : Dice b w) (o : Obj) : Dice b (w.alloc o):=h.kept h.lt (below_box _ _)
theorem dice_grown {b B n k : Nat} {w w2 : World} {e : TypeId} {v : Value} {xs : List Value} (h : Dice b w) (hown : w.ownsRow B e k v n xs) (hb : b < B) (hB : B <= w.heap.size) (hg : w.grownBy w2 v.ownBlock) : Dice b w2 :=
 h.kept hb ((Below.refl _ w).grown hg hB (fun k hk => (hown.lt k hk).1))
theorem row_but {b B k : Nat} {w w' : World} {e : TypeId} {v : Value} {n : Nat} {xs : List Value} (h : w.ownsRow B e k v n xs) (hb : b < B) (ho : But b w.heap.size w w') : w'.ownsRow B e k v n xs:=by
 refine ⟨h.1,?_⟩;rcases h.2 with h1 | ⟨g,cap,cur,r1,r2,r3,r4⟩
 ·exact .inl h1
 ·exact .inr ⟨g,cap,cur,r1,r2,(ho.block g (Array.getElem?_eq_some_iff.1 r3).1 (by omega)).trans r3,r4⟩
def setAll (w : World) (g : Nat) : Nat -> List Value -> World
 | _,[] => w
 | o,v :: r => setAll (w.setCell ⟨g,o,none⟩ v) g (o + 1) r
theorem Blk.puts {g : Nat} {ty : TypeId} : ∀ (vs pre mid post : List Value) (w : World),Blk g (pre ++ mid ++ post).toArray ty w -> mid.length = vs.length -> Blk g (pre ++ vs ++ post).toArray ty (setAll w g pre.length vs)
 | [],pre,mid,post,w,h,hl => by
  rw [List.eq_nil_of_length_eq_zero hl] at h;exact h
 | v :: r,pre,[],post,w,h,hl => by cases hl
 | v :: r,pre,m :: mid,post,w,h,hl => by
  have h1:=h.set pre.length v;have e : (pre ++ (m :: mid) ++ post).toArray.setIfInBounds pre.length v = ((pre ++ [v]) ++ mid ++ post).toArray:=by
   simp
  rw [e] at h1;have h2:=Blk.puts r (pre ++ [v]) mid post _ h1 (by simpa using hl);rw [show (pre ++ [v]).length = pre.length + 1 by simp] at h2;show Blk g _ ty (setAll (w.setCell ⟨g,pre.length,none⟩ v) g (pre.length + 1) r)
  simpa using h2
theorem Blk.puts_other {g g' : Nat} {cs : Array Value} {ty : TypeId} (hne : g ≠ g') : ∀ (vs : List Value) (o : Nat) (w : World),Blk g cs ty w -> Blk g cs ty (setAll w g' o vs)
 | [],_,_,h => h
 | v :: r,o,_,h => Blk.puts_other hne r (o + 1) _ (h.set_other hne o v)
theorem row_setAll {B k : Nat} {e : TypeId} {v : Value} {n : Nat} {xs : List Value} {g : Nat} {ty : TypeId} (hte : ty ≠ e) : ∀ (vs : List Value) (o : Nat) (w : World) (cs : Array Value),w.ownsRow B e k v n xs -> Blk g cs ty w -> (setAll w g o vs).ownsRow B e k v n xs
 | [],_,_,_,h,_ => h
 | u :: r,o,_,_,h,hg => row_setAll hte r (o + 1) _ _ (row_set h hg hte o u) (hg.set o u)
theorem but_setAll {b B g : Nat} (hg : B <= g) {w : World} : ∀ (vs : List Value) (o : Nat) (w1 : World),But b B w w1 -> But b B w (setAll w1 g o vs)
 | [],_,_,h => h
 | _ :: r,o,_,h => but_setAll hg r (o + 1) _ (but_set h hg)
theorem dice_setAll {b g : Nat} (hg : b < g) : ∀ (vs : List Value) (o : Nat) (w : World),Dice b w -> Dice b (setAll w g o vs)
 | [],_,_,h => h
 | _ :: r,o,_,h => dice_setAll hg r (o + 1) _ (dice_set h hg)
theorem below_setAll {B g : Nat} (hg : B <= g) {w : World} : ∀ (vs : List Value) (o : Nat) (w1 : World),Below B w w1 -> Below B w (setAll w1 g o vs)
 | [],_,_,h => h
 | _ :: r,o,_,h => below_setAll hg r (o + 1) _ (h.setCell hg _)
def RowI (lo : Nat) (w : World) (v : Value) (xs : List Int) : Prop:=w.ownsRow lo 3 1 v xs.length (xs.map (Value.int .i64))
theorem RowI.nil (lo : Nat) (w : World) : RowI lo w (.slice none 0 0) []:=World.ownsRow_nil _ _ _ _
theorem RowI.slice {lo : Nat} {w : World} {v : Value} {xs : List Int} (h : RowI lo w v xs) : ∃ ao c,v = .slice ao xs.length c:=by
 rcases h.2 with ⟨hv,h0⟩ | ⟨g,cap,cur,hv,_⟩
 ·exact ⟨none,0,by rw [hv,h0]⟩
 ·exact ⟨_,_,hv⟩
theorem RowI.ints {lo : Nat} {w : World} {v : Value} {xs : List Int} (h : RowI lo w v xs) : ∃ ao c,v = .slice ao xs.length c /\ Ints w.heap.size w ao xs:=by
 rcases h.2 with ⟨hv,h0⟩ | ⟨g,cap,cur,hv,r2,r3,r4,r5,_⟩
 ·refine ⟨none,0,by rw [hv,h0],fun j x hj => ?_⟩;rw [List.eq_nil_of_length_eq_zero h0] at hj;simp at hj
 ·refine ⟨_,cap,hv,fun j x hj => ⟨_,rfl,(Array.getElem?_eq_some_iff.1 r3).1,?_⟩⟩;subst hv;exact h.cells (g:=g) rfl j _ (by simp [hj])
theorem RowI.snoc {lo : Nat} {w : World} {v : Value} {xs : List Int} {x : Int} (h : w.ownsRow lo 3 1 v (xs.length + 1) (xs.map (Value.int .i64) ++ [.int .i64 x])) : RowI lo w v (xs ++ [x]):=by
 unfold RowI;simpa using h
end Go.Proofs.YtageielcdebjlaaGreatDoor
