/- The feed's buffer: put appends one line. The lines of a feed without events, and that such a feed is valid. feed.Format of a feed without events. feed's parser: see, take, number; DeleteFunc where nothing is deleted. feed.Parse of the text of a feed without events. The texts of dates and of times: both of the reference, and the program's times. The text of the rule of a series: recurrence.Format and the reference's. Events in memory; feed.check and timetableref40.faultBehind: their contracts. -/
import Derived.Test.YtcomifbfldoeiaaGreatDoorUnfoldAll
import Derived.Deep.AppendLies
import Derived.Deep.RegionLaw
import Derived.Deep.RegionHeld3
import Derived.Test.YtcomifbfldoeiaaGreatDoorQk3
import Derived.Deep.LoopGhost
import Derived.Test.YtcomifbfldoeiaaGreatDoorQk6
open Array renaming getElem?_eq_some_iff->xa
open List renaming map_cons->xb,getElem?_eq_getElem->xc,length_append->xd,length_cons->xe,eq_nil_of_length_eq_zero->xf,length_map->xg,take_succ_eq_append_getElem->xj,map_append->xl,map_nil->xm,getElem?_eq_none->xo,append_nil->xp
open Nat renaming le_refl->xh,zero_le->xk,le_trans->xn
open Go.World renaming ownsRow_nil->xi
open Option.some renaming inj->xq
set_option maxRecDepth 100000
set_option maxHeartbeats 40000000
-- Put
namespace Go.Proofs.YtcomifbfldoeiaaGreatDoor
open Go.RowKit
structure Buf (b B : Nat) (xs : List ByteArray) (w : World) : Prop where
 lt : b < B
 ex : ∃ v,w.heap[b]? = some (.cells #[v] 209 (0,0)) /\ w.ownsRow B 9 1 v xs.length (xs.map Value.string)
theorem join_nil (ls : List (List UInt8)) : Lib.join ls [] = ls.flatten:=by
 unfold Lib.join List.intercalate;induction ls with
 | nil => rfl
 | cons a t ih =>
  cases t with
  | nil => simp
  | cons b r =>
   rw [show List.intersperse [] (a :: b :: r) = a :: [] :: List.intersperse [] (b :: r) from rfl];simp only [List.flatten_cons] at ih ⊢;rw [ih];simp
theorem put_join {b B : Nat} {v : Value} {n : Nat} {ys : List Value} {w w' : World} (hown : w.ownsRow B 9 1 v n ys) (hbk : w.heap[b]? = some (.cells #[v] 209 (0,0))) (hblt : b < w.heap.size) (hb : Below w.drew.heap.size w.drew w') (hB : B <= w.heap.size) :
  w'.ownsRow B 9 1 v n ys /\ Hid (w'.heap[b]? = some (.cells #[v] 209 (0,0))) /\ w'.cell? ⟨b,0,none⟩ = some v /\ w'.frozen? ⟨b,0,none⟩ = false /\ B <= w'.heap.size /\ (∀ o,(w'.alloc o).cell? ⟨b,0,none⟩ = some v):=by
 have h1 : w'.heap[b]? = some (.cells #[v] 209 (0,0)):=(hb.block b hblt).trans hbk;exact ⟨ownsRow_below (w:=w.drew) hown hb,h1,by rw [Lib.cell_of_heap h1];rfl,Lib.frozen_of_heap h1 0,xn hB hb.size,fun o => by
  have h2:=(Lib.alloc_old w' o b (xa.1 h1).1).trans h1;rw [Lib.cell_of_heap h2];rfl⟩
theorem put_kept {b B : Nat} {v : Value} {n : Nat} {ys : List Value} {w' w1 : World} {u : Value} (hbk : Hid (w'.heap[b]? = some (.cells #[v] 209 (0,0)))) (hown : w'.ownsRow B 9 1 v n ys) (hbB : b < B) (hg : (w'.alloc (.cells #[u] 9)).grownBy w1 v.ownBlock) :
  w1.cell? ⟨b,0,none⟩ = some v /\ w1.frozen? ⟨b,0,none⟩ = false:=by
 have hlt : b < w'.heap.size:=(xa.1 hbk.out).1;have h1 : w1.heap[b]? = some (.cells #[v] 209 (0,0)):=by
  rw [hg.block b (by simp;omega) (fun e => by have:=(hown.lt b e.symm).1;omega),Lib.alloc_old w' _ b hlt];exact hbk.out
 exact ⟨by rw [Lib.cell_of_heap h1];rfl,Lib.frozen_of_heap h1 0⟩
theorem put_buf {b B g cap : Nat} {v : Value} {xs : List ByteArray} {L : ByteArray} {w' w1 : World} (hbk : w'.heap[b]? = some (.cells #[v] 209 (0,0))) (hown : w'.ownsRow B 9 1 v xs.length (xs.map Value.string)) (hbB : b < B)
  (hg : (w'.alloc (.cells #[.string L] 9)).grownBy w1 v.ownBlock) (hown1 : w1.ownsRow B 9 1 (.slice (some ⟨g,0,none⟩) (xs.length + 1) cap) (xs.length + 1) (xs.map Value.string ++ [.string L])) :
  Buf b B (xs ++ [L]) (w1.setCell ⟨b,0,none⟩ (.slice (some ⟨g,0,none⟩) (xs.length + 1) cap)):=by
 have hlt : b < w'.heap.size:=(xa.1 hbk).1;have h1 : w1.heap[b]? = some (.cells #[v] 209 (0,0)):=by
  rw [hg.block b (by simp;omega) (fun e => by have:=(hown.lt b e.symm).1;omega),Lib.alloc_old w' _ b hlt];exact hbk
 refine ⟨hbB,.slice (some ⟨g,0,none⟩) (xs.length + 1) cap,by simp [World.setCell,Array.getElem?_modify,h1],?_⟩;have:=ownsRow_setCell_below hown1 (a:=⟨b,0,none⟩) hbB (.slice (some ⟨g,0,none⟩) (xs.length + 1) cap);simpa using this
theorem put_but {b B n : Nat} {v u : Value} {ys : List Value} {x : Value} {w w' w1 : World} (hb : Below w.drew.heap.size w.drew w') (hown : w'.ownsRow B 9 1 v n ys) (_hbB : b < B) (hB : B <= w.heap.size)
  (hg : (w'.alloc (.cells #[u] 9)).grownBy w1 v.ownBlock) : But b B w (w1.setCell ⟨b,0,none⟩ x):=by
 have hs : w.heap.size <= w'.heap.size:=hb.size;refine ⟨hg.os.trans hb.os,hg.tape.trans hb.tape,hg.output.trans hb.output,?_,fun k hk hkb => ?_⟩
 ·have:=hg.size;simp [World.setCell] at this ⊢;omega
 ·rw [Below.heap_setCell _ _ _ _ hkb,hg.block k (by simp;omega) (fun e => by have:=(hown.lt k e.symm).1;omega),Lib.alloc_old w' _ k (by omega)];exact hb.block k (show k < w.heap.size by omega)
end Go.Proofs.YtcomifbfldoeiaaGreatDoor
-- Written
namespace Go.Proofs.YtcomifbfldoeiaaGreatDoor
open Go.RowKit
theorem Buf.kept {b B : Nat} {xs : List ByteArray} {w w' : World} (h : Buf b B xs w) (hw : Below w.heap.size w w') : Buf b B xs w':=by
 obtain ⟨v,h1,h2⟩:=h.ex;exact ⟨h.lt,v,(hw.block b (xa.1 h1).1).trans h1,ownsRow_below h2 hw⟩
def str (l : List UInt8) : ByteArray:=⟨l.toArray⟩
structure FeedAt (b : Nat) (n : ByteArray) (v : Int) (ev : Value) (w : World) : Prop where
 c0 : w.cell? ⟨b,0,none⟩ = some (.string n)
 c1 : w.cell? ⟨b,1,none⟩ = some (.int .i64 v)
 c2 : w.cell? ⟨b,2,none⟩ = some ev
theorem FeedAt.but {a b B : Nat} {n : ByteArray} {v : Int} {ev : Value} {w w' : World} (h : FeedAt a n v ev w) (hw : But b B w w') (h1 : a < B) (h2 : a ≠ b) : FeedAt a n v ev w' :=
 ⟨(hw.cell (p:=⟨a,0,none⟩) h1 h2).trans h.c0,(hw.cell (p:=⟨a,1,none⟩) h1 h2).trans h.c1,(hw.cell (p:=⟨a,2,none⟩) h1 h2).trans h.c2⟩
theorem written_start (n : ByteArray) (v : Int) (ev : Value) (w : World) :
  FeedAt w.heap.size n v ev ((w.alloc (.cells #[.string n,.int .i64 v,ev] 49)).alloc (.cells #[.slice none 0 0] 209)) /\
  Buf (w.heap.size + 1) (w.heap.size + 2) [] ((w.alloc (.cells #[.string n,.int .i64 v,ev] 49)).alloc (.cells #[.slice none 0 0] 209)) /\
  Below w.heap.size w ((w.alloc (.cells #[.string n,.int .i64 v,ev] 49)).alloc (.cells #[.slice none 0 0] 209)) /\
  ((w.alloc (.cells #[.string n,.int .i64 v,ev] 49)).alloc (.cells #[.slice none 0 0] 209)).heap.size = w.heap.size + 2:=by
 have h1 : ((w.alloc (.cells #[.string n,.int .i64 v,ev] 49)).alloc (.cells #[.slice none 0 0] 209)).heap[w.heap.size]? = some (.cells #[.string n,.int .i64 v,ev] 49 (0,0)):=by
  rw [Lib.alloc_old _ _ _ (by simp)];exact heap_alloc_new w _
 have h2 : ((w.alloc (.cells #[.string n,.int .i64 v,ev] 49)).alloc (.cells #[.slice none 0 0] 209)).heap[w.heap.size + 1]? = some (.cells #[.slice none 0 0] 209 (0,0)):=by
  have:=heap_alloc_new (w.alloc (.cells #[.string n,.int .i64 v,ev] 49)) (.cells #[.slice none 0 0] 209);simpa using this
 refine ⟨⟨?_,?_,?_⟩,⟨by omega,.slice none 0 0,h2,xi _ _ _ _⟩,((Below.refl _ w).alloc (xh _) _).alloc (by simp) _,by simp⟩
 all_goals (rw [Lib.cell_of_heap h1];rfl)
end Go.Proofs.YtcomifbfldoeiaaGreatDoor
-- Format
namespace Go.Proofs.YtcomifbfldoeiaaGreatDoor
open Go.RowKit
theorem alloc3 (n : ByteArray) (v : Int) (ev : Value) (w : World) : FeedAt w.heap.size n v ev (w.alloc (.cells #[.string n,.int .i64 v,ev] 49)):=by
 have h1:=heap_alloc_new w (.cells #[.string n,.int .i64 v,ev] 49);refine ⟨?_,?_,?_⟩
 all_goals (rw [Lib.cell_of_heap h1];rfl)
theorem FeedAt.below {a B : Nat} {n : ByteArray} {v : Int} {ev : Value} {w w' : World} (h : FeedAt a n v ev w) (hw : Below B w w') (h1 : a < B) : FeedAt a n v ev w' :=
 ⟨(hw.cell (p:=⟨a,0,none⟩) h1).trans h.c0,(hw.cell (p:=⟨a,1,none⟩) h1).trans h.c1,(hw.cell (p:=⟨a,2,none⟩) h1).trans h.c2⟩
theorem addr_add (g k : Nat) : (⟨g,0,none⟩ : Addr).add k = ⟨g,k,none⟩:=by
 unfold Addr.add;split
 ·simp
 ·simp
theorem format_step (ls : List ByteArray) (k : Nat) (x : ByteArray) (h : ls[k]? = some x) : (ls.take (k + 1)).flatMap (fun l => Tt.fold l.data.toList) = (ls.take k).flatMap (fun l => Tt.fold l.data.toList) ++ Tt.fold x.data.toList:=by
 obtain ⟨h1,h2⟩:=List.getElem?_eq_some_iff.1 h;rw [xj h1,h2];simp
theorem take_le (ls : List ByteArray) (k : Nat) : ((ls.take k).flatMap (fun l => Tt.fold l.data.toList)).length <= (ls.flatMap (fun l => Tt.fold l.data.toList)).length:=by
 conv => rhs;rw [<- List.take_append_drop k ls]
 rw [List.flatMap_append,xd];omega
end Go.Proofs.YtcomifbfldoeiaaGreatDoor
-- Take
namespace Go.Proofs.YtcomifbfldoeiaaGreatDoor
open Go.RowKit
structure Par (b g o cap : Nat) (xs : List ByteArray) (z : ByteArray) (bad : Bool) (w : World) : Prop where
 hb : w.heap[b]? = some (.cells #[.slice (some ⟨g,o,none⟩) xs.length cap,.string z,.bool bad] 191 (0,0))
 str : StrAt w (some ⟨g,o,none⟩) xs
 le : xs.length <= cap
 ne : g ≠ b
theorem Par.c0 {b g o cap : Nat} {xs : List ByteArray} {z : ByteArray} {bad : Bool} {w : World} (h : Par b g o cap xs z bad w) : w.cell? ⟨b,0,none⟩ = some (.slice (some ⟨g,o,none⟩) xs.length cap):=by rw [Lib.cell_of_heap h.hb];rfl
theorem Par.c2 {b g o cap : Nat} {xs : List ByteArray} {z : ByteArray} {bad : Bool} {w : World} (h : Par b g o cap xs z bad w) : w.cell? ⟨b,2,none⟩ = some (.bool bad):=by rw [Lib.cell_of_heap h.hb];rfl
theorem Par.f0 {b g o cap : Nat} {xs : List ByteArray} {z : ByteArray} {bad : Bool} {w : World} (h : Par b g o cap xs z bad w) (i : Nat) : w.frozen? ⟨b,i,none⟩ = false:=Lib.frozen_of_heap h.hb i
theorem Par.hd {b g o cap : Nat} {x : ByteArray} {xs : List ByteArray} {z : ByteArray} {bad : Bool} {w : World} (h : Par b g o cap (x :: xs) z bad w) : w.cell? ⟨g,o,none⟩ = some (.string x):=by
 obtain ⟨a,ha,hc⟩:=h.str 0 x rfl;cases ha;simpa [Addr.add] using hc
theorem Par.lt {b g o cap : Nat} {xs : List ByteArray} {z : ByteArray} {bad : Bool} {w : World} (h : Par b g o cap xs z bad w) : b < w.heap.size:=(xa.1 h.hb).1
theorem addr_add2 (g o k : Nat) : (⟨g,o,none⟩ : Addr).add k = ⟨g,o + k,none⟩:=by
 unfold Addr.add;split
 ·simp [*]
 ·simp
theorem strAt_tail {w w' : World} {g o o' : Nat} {x : ByteArray} {xs : List ByteArray} (h : StrAt w (some ⟨g,o,none⟩) (x :: xs)) (ho : o' = o + 1 ∨ xs = []) (hw : w'.heap[g]? = w.heap[g]?) : StrAt w' (some ⟨g,o',none⟩) xs:=by
 intro j y hy;rcases ho with rfl | rfl
 ·obtain ⟨a,ha,hc⟩:=h (j + 1) y hy;cases ha;refine ⟨_,rfl,?_⟩;rw [addr_add2] at hc ⊢;rw [World.cell?_of_block (w:=w) (by simpa using hw),show o + 1 + j = o + (j + 1) by omega];exact hc
 ·cases hy
theorem only_set (w : World) (b i : Nat) (v : Value) : Only b w (w.setCell ⟨b,i,none⟩ v) :=
 ⟨rfl,rfl,rfl,by simp [World.setCell],fun k hk => Below.heap_setCell _ _ _ _ hk⟩
theorem see_any (b g o cap : Nat) (x : ByteArray) (xs : List ByteArray) (z k : ByteArray) (bad : Bool) (w : World) (h : Par b g o cap (x :: xs) z bad w) :
  Calls Tryz.prog 114 #[.pointer (some ⟨b,0,none⟩),.string k] w fun e w' => e = .returned (.tuple #[.string ⟨(Lib.trimPrefix x.data.toList k.data.toList).toArray⟩,.bool (Lib.hasPrefix x.data.toList k.data.toList)]) /\ w' = w:=by
 have c0:=h.c0;have c1:=h.hd;have hl2 : (((x :: xs).length : Int) == 0) = false:=by rw [xe];exact beq_eq_false_iff_ne.2 (by omega)
 have hl3 : (0 : Int) < ((x :: xs).length : Int):=by rw [xe];omega
 go_enter Tryz.func114,Tryz.ntmps114;go_wp2_with fail;refine (Tryz.strings_CutPrefix _ _ _).mono ?_;rintro e w1 ⟨rfl,hw⟩;rw [hw];clear hw w1;go_wp2_with fail;go_ret2;exact ⟨rfl,rfl⟩
theorem see_end (b g o cap : Nat) (z k : ByteArray) (bad : Bool) (w : World) (h : Par b g o cap [] z bad w) :
  Calls Tryz.prog 114 #[.pointer (some ⟨b,0,none⟩),.string k] w fun e w' => e = .returned (.tuple #[.string ⟨#[]⟩,.bool false]) /\ w' = w:=by
 have c0:=h.c0;go_enter Tryz.func114,Tryz.ntmps114;go_wp2_with fail;go_ret2;exact ⟨rfl,rfl⟩
theorem take_any (b g o cap : Nat) (x : ByteArray) (xs : List ByteArray) (z k : ByteArray) (bad : Bool) (w : World) (hpar : Par b g o cap (x :: xs) z bad w) (hp : Lib.hasPrefix x.data.toList k.data.toList = true) :
  Calls Tryz.prog 112 #[.pointer (some ⟨b,0,none⟩),.string k] w fun e w' => e = .returned (.string ⟨(Lib.trimPrefix x.data.toList k.data.toList).toArray⟩) /\ (∃ o' cap',Par b g o' cap' xs z bad w') /\ Only b w w':=by
 have c0:=hpar.c0;have hl3 : (1 : Int) <= ((x :: xs).length : Int):=by rw [xe];omega
 have hf:=hpar.f0 0;go_enter Tryz.func112,Tryz.ntmps112;go_wp2_with fail;refine (see_any b g o cap x xs z k bad w hpar).mono ?_;rintro e w1 ⟨rfl,hw⟩;rw [hw,hp];clear hw w1;go_wp2_with fail
 ·go_ret;refine ⟨rfl,⟨o,0,?_⟩,only_set _ _ _ _⟩;have hx : xs = []:=by have:=hpar.le;simp at this;apply xf;omega
  exact ⟨by simp [World.setCell,Array.getElem?_modify,hpar.hb],strAt_tail hpar.str (.inr hx) (Below.heap_setCell _ _ _ _ hpar.ne),by rw [hx];simp,hpar.ne⟩
 ·go_ret;refine ⟨rfl,⟨o + 1,cap - 1,?_⟩,only_set _ _ _ _⟩;exact ⟨by simp [World.setCell,Array.getElem?_modify,hpar.hb],strAt_tail hpar.str (.inl rfl) (Below.heap_setCell _ _ _ _ hpar.ne),by have:=hpar.le;simp at this;omega,hpar.ne⟩
theorem Par.below {b g o cap : Nat} {xs : List ByteArray} {z : ByteArray} {bad : Bool} {w w' : World} (h : Par b g o cap xs z bad w) (hw : Below w.heap.size w w') (hg : g < w.heap.size) : Par b g o cap xs z bad w' :=
 ⟨(hw.block b h.lt).trans h.hb,fun j x hx => by
  obtain ⟨a,ha,hc⟩:=h.str j x hx;refine ⟨a,ha,?_⟩;cases ha;rw [addr_add2] at hc ⊢;exact (hw.cell (p:=⟨g,o + j,none⟩) hg).trans hc,h.le,h.ne⟩
theorem Par.set2 {b g o cap : Nat} {xs : List ByteArray} {z : ByteArray} {bad : Bool} {w : World} (h : Par b g o cap xs z bad w) (bad' : Bool) : Par b g o cap xs z bad' (w.setCell ⟨b,2,none⟩ (.bool bad')) :=
 ⟨by simp [World.setCell,Array.getElem?_modify,h.hb],fun j x hx => by
  obtain ⟨a,ha,hc⟩:=h.str j x hx;refine ⟨a,ha,?_⟩;cases ha;rw [addr_add2] at hc ⊢;rw [World.cell?_of_block (w:=w) (Below.heap_setCell _ _ _ _ h.ne)];exact hc,h.le,h.ne⟩
theorem number_any (b g o cap : Nat) (xs : List ByteArray) (z s : ByteArray) (n : Int) (hl : s.size <= 18) (ha : Lib.atoi s.data.toList = some n) (w : World) (hpar : Par b g o cap xs z false w) (hg : g < w.heap.size) :
  Calls Tryz.prog 113 #[.pointer (some ⟨b,0,none⟩),.string s] w fun e w' => e = .returned (.int .i64 n) /\ Par b g o cap xs z false w' /\ But b w.heap.size w w':=by
 go_enter Tryz.func113,Tryz.ntmps113;go_wp2_with fail;refine (Tryz.strconv_Atoi s n hl ha w).mono ?_;rintro e w1 ⟨rfl,t,hw⟩;have hbel : Below w.heap.size w w1:=by rw [hw];exact ⟨rfl,rfl,rfl,by rw [Lib.bytesWorld_size];omega,fun k hk => Lib.bytesWorld_at_old w 5 t k hk⟩
 clear hw;have hp1:=hpar.below hbel hg;have c2:=hp1.c2;have hf:=hp1.f0 2;clear hpar;go_wp2_with fail;go_ret;refine ⟨rfl,hp1.set2 false,?_⟩;exact (But.of_below (b:=b) hbel).trans ((only_set w1 b 2 (.bool false)).but)
theorem minus_any (s : ByteArray) (w : World) :
  Calls Tryz.prog 110 #[.string s] w fun e w' => e = .returned (.bool (Lib.hasPrefix s.data.toList [88,45])) /\ w' = w:=by
 go_enter Tryz.func110,Tryz.ntmps110;go_wp2_with fail;refine (Tryz.strings_HasPrefix _ _ _).mono ?_;rintro e w2 ⟨rfl,hw⟩;rw [hw];clear hw w2;go_wp2_with fail;go_ret;exact ⟨rfl,rfl⟩
theorem index_none (ao : Option Addr) (c : Nat) (xs : List ByteArray) (w : World) (hn : xs.length <= 9223372036854775806) (h1 : StrAt w ao xs) (hx : ∀ x ∈ xs,Lib.hasPrefix x.data.toList [88,45] = false) :
  Calls Tryz.prog 174 #[.slice ao xs.length c,.func (.func 110) #[] #[]] w fun e w' => e = .returned (.int .i64 (-1)) /\ ∃ q,w' = w.drewN q:=by
 have HX:=Lh hx;have H1:=Lh h1;clear hx h1;go_enter Tryz.func174,Tryz.ntmps174;go_wp2_with fail;go_loopw [8] (fun i wr => ∃ k q : Nat,k <= xs.length /\ i = .int .i64 k /\ wr = w.drewN q) (fun i _ => xs.length - (intOf i).toNat)
 case atStart => exact ⟨0,0,xk _,rfl,rfl⟩
 case round =>
  obtain ⟨k,q,hk,rfl,rfl⟩:=hrel;by_cases hlt : k < xs.length
  ·obtain ⟨x,hx⟩ : ∃ x,xs[k]? = some x:=⟨_,xc hlt⟩
   obtain ⟨a,rfl,ha⟩:=H1.out k x hx;have hp:=HX.out x (List.mem_of_getElem? hx);have hki : (k : Int) < (xs.length : Int):=by omega
   clear hx;go_wp2_with fail;refine (minus_any _ _).mono ?_;rintro e w2 ⟨rfl,hw⟩;rw [hw,hp];clear hw w2;go_wp2_with fail;go_roundw
   case rel => exact ⟨k + 1,_,by omega,by go_num,rfl⟩
   case measure => simp [intOf];omega
  ·go_wp2_with fail;go_ret;exact ⟨rfl,_,rfl⟩
theorem equal_any (ao bo : Option Addr) (n m c d : Nat) (xs ys : List ByteArray) (hn : xs.length = n) (hm : ys.length = m) (hn2 : n <= 9223372036854775807) (hm2 : m <= 9223372036854775807) (w : World) (h1 : StrAt w ao xs) (h2 : StrAt w bo ys) :
  Calls Tryz.prog 116 #[.slice ao n c,.slice bo m d] w fun e w' => e = .returned (.bool (decide (xs = ys))) /\ ∃ q,w' = w.drewN q:=by
 have HN:=Lh hn;have HM:=Lh hm;have H1:=Lh h1;have H2:=Lh h2;clear hn hm h1 h2;by_cases hl : n = m
 ·subst hl;have hq : ((n : Int) != (n : Int)) = false:=by simp
  go_enter Tryz.func116,Tryz.ntmps116;go_wp2_with fail;go_loopw [13] (fun i wr => ∃ k q : Nat,k <= n /\ i = .int .i64 k /\ wr = w.drewN q /\ Hid (∀ j,j < k -> xs[j]? = ys[j]?)) (fun i _ => n - (intOf i).toNat)
  case atStart => exact ⟨0,0,xk _,rfl,rfl,fun j hj => absurd hj (Nat.not_lt_zero _)⟩
  case round =>
   obtain ⟨k,q,hk,rfl,rfl,HE⟩:=hrel;by_cases hlt : k < n
   ·obtain ⟨x,hx⟩ : ∃ x,xs[k]? = some x:=⟨_,xc (by rw [HN.out];exact hlt)⟩
    obtain ⟨y,hy⟩ : ∃ y,ys[k]? = some y:=⟨_,xc (by rw [HM.out];exact hlt)⟩
    obtain ⟨a,rfl,ha⟩:=H1.out k x hx;obtain ⟨b,rfl,hb⟩:=H2.out k y hy;have HX:=Lh hx;have HY:=Lh hy;have hki : (k : Int) < (n : Int):=by omega
    clear hx hy;by_cases he : x = y
    ·have ht:=str_eq x y he;have HXY:=Lh he;clear he;go_wp2_with fail;go_quiet (fail);go_wp2_with fail;go_roundw
     case rel =>
      refine ⟨k + 1,_,by omega,by go_num,rfl,?_⟩;intro j hj;by_cases e : j = k
      ·rw [e,HX.out,HY.out,HXY.out]
      ·exact HE.out j (by omega)
     case measure => simp [intOf];omega
    ·have ht:=str_ne x y he;have HF:=Lh (show decide (xs = ys) = false from decide_eq_false (fun e => he (by
      have h3:=HX.out;rw [e,HY.out] at h3;exact (xq h3).symm)))
     clear he;go_wp2_with fail;go_quiet (fail)
     go_wp2_with fail;go_ret;rw [HF.out];exact ⟨rfl,_,by rw [World.drewN_drewN]⟩
   ·go_wp2_with fail;go_ret;have : xs = ys:=by
     apply List.ext_getElem?
     intro j;by_cases hj : j < k
     ·exact HE.out j hj
     ·rw [xo (by rw [HN.out];omega),xo (by rw [HM.out];omega)]
    rw [decide_eq_true this];exact ⟨rfl,_,rfl⟩
 ·have hq : ((n : Int) != (m : Int)) = true:=by rw [bne_iff_ne];omega
  have HF:=Lh (show decide (xs = ys) = false from decide_eq_false (fun e => hl (by rw [<- HN.out,<- HM.out,e])));clear hl;go_enter Tryz.func116,Tryz.ntmps116;go_wp2_with fail;go_ret;rw [HF.out];exact ⟨rfl,0,rfl⟩
end Go.Proofs.YtcomifbfldoeiaaGreatDoor
-- Parse
namespace Go.Proofs.YtcomifbfldoeiaaGreatDoor
open Go.RowKit
def kBegin : List UInt8:=[66,69,71,73,78,58,86,67,65,76,69,78,68,65,82]
def kVersion : List UInt8:=[86,69,82,83,73,79,78,58]
def kProdid : List UInt8:=[80,82,79,68,73,68,58]
def kName : List UInt8:=[78,65,77,69,58]
def kRevision : List UInt8:=[82,69,86,73,83,73,79,78,58]
def kEvent : List UInt8:=[66,69,71,73,78,58,86,69,86,69,78,84]
theorem prefix_app (k l : List UInt8) : Lib.hasPrefix (k ++ l) k = true:=by
 unfold Lib.hasPrefix;simp
theorem trim_app (k l : List UInt8) : Lib.trimPrefix (k ++ l) k = l:=by
 unfold Lib.trimPrefix;simp [prefix_app]
theorem map_data_inj {xs ys : List ByteArray} (h : xs.map (·.data.toList) = ys.map (·.data.toList)) : xs = ys:=by
 have:=congrArg (List.map (fun l : List UInt8 => (⟨l.toArray⟩ : ByteArray))) h;simpa [List.map_map,Function.comp_def,Lib.mk_data] using this
def FeedB (f : Nat) (n : ByteArray) (v : Int) (ev : Value) (w : World) : Prop:=w.heap[f]? = some (.cells #[.string n,.int .i64 v,ev] 49 (0,0))
theorem FeedB.block {f : Nat} {n : ByteArray} {v : Int} {ev : Value} {w w' : World} (h : FeedB f n v ev w) (hw : w'.heap[f]? = w.heap[f]?) : FeedB f n v ev w':=hw.trans h
theorem FeedB.lt {f : Nat} {n : ByteArray} {v : Int} {ev : Value} {w : World} (h : FeedB f n v ev w) : f < w.heap.size:=(xa.1 h).1
theorem FeedB.c0 {f : Nat} {n : ByteArray} {v : Int} {ev : Value} {w : World} (h : FeedB f n v ev w) : w.cell? ⟨f,0,none⟩ = some (.string n):=by rw [Lib.cell_of_heap h];rfl
theorem FeedB.c1 {f : Nat} {n : ByteArray} {v : Int} {ev : Value} {w : World} (h : FeedB f n v ev w) : w.cell? ⟨f,1,none⟩ = some (.int .i64 v):=by rw [Lib.cell_of_heap h];rfl
theorem FeedB.c2 {f : Nat} {n : ByteArray} {v : Int} {ev : Value} {w : World} (h : FeedB f n v ev w) : w.cell? ⟨f,2,none⟩ = some ev:=by rw [Lib.cell_of_heap h];rfl
theorem FeedB.fr {f : Nat} {n : ByteArray} {v : Int} {ev : Value} {w : World} (h : FeedB f n v ev w) (i : Nat) : w.frozen? ⟨f,i,none⟩ = false:=Lib.frozen_of_heap h i
theorem FeedB.name {f : Nat} {n n' : ByteArray} {v : Int} {ev : Value} {w : World} (h : FeedB f n v ev w) : FeedB f n' v ev (w.setCell ⟨f,0,none⟩ (.string n')):=by
 unfold FeedB at h ⊢;simp [World.setCell,Array.getElem?_modify,h]
theorem FeedB.rev {f : Nat} {n : ByteArray} {v v' : Int} {ev : Value} {w : World} (h : FeedB f n v ev w) : FeedB f n v' ev (w.setCell ⟨f,1,none⟩ (.int .i64 v')):=by
 unfold FeedB at h ⊢;simp [World.setCell,Array.getElem?_modify,h]
theorem FeedB.evs {f : Nat} {n : ByteArray} {v : Int} {ev ev' : Value} {w : World} (h : FeedB f n v ev w) : FeedB f n v ev' (w.setCell ⟨f,2,none⟩ ev'):=by
 unfold FeedB at h ⊢;simp [World.setCell,Array.getElem?_modify,h]
theorem Par.other {b g o cap : Nat} {xs : List ByteArray} {z : ByteArray} {bad : Bool} {w w' : World} (h : Par b g o cap xs z bad w) (h1 : w'.heap[b]? = w.heap[b]?) (h2 : w'.heap[g]? = w.heap[g]?) : Par b g o cap xs z bad w' :=
 ⟨h1.trans h.hb,fun j x hx => by
  obtain ⟨a,ha,hc⟩:=h.str j x hx;refine ⟨a,ha,?_⟩;cases ha;rw [addr_add2] at hc ⊢;rw [World.cell?_of_block (w:=w) h2];exact hc,h.le,h.ne⟩
theorem strAt_block {w w' : World} {g : Nat} {xs : List ByteArray} (h : StrAt w (some ⟨g,0,none⟩) xs) (hw : w'.heap[g]? = w.heap[g]?) : StrAt w' (some ⟨g,0,none⟩) xs:=fun j x hx => by
 obtain ⟨a,ha,hc⟩:=h j x hx;refine ⟨a,ha,?_⟩;cases ha;rw [addr_add2] at hc ⊢;rw [World.cell?_of_block (w:=w) hw];exact hc
theorem parse_start (r g cap : Nat) (xs : List ByteArray) (z : ByteArray) (w w1 : World) (q : Nat) (hg1 : r + 1 <= g) (hg2 : g < w1.heap.size) (hcap : xs.length <= cap) (hs : StrAt w1 (some ⟨g,0,none⟩) xs) (L1 : Below r w w1) (R1 : FeedB r ⟨#[]⟩ 0 (.slice none 0 0) w1) :
  ∃ W,W = (((w1.drewN q).alloc (.cells #[.slice (some ⟨g,0,none⟩) xs.length cap,.string z,.bool false] 191)).alloc (.cells #[.string ⟨#[]⟩,.int .i64 0,.slice none 0 0] 49)) /\
   Par w1.heap.size g 0 cap xs z false W /\ FeedB (w1.heap.size + 1) ⟨#[]⟩ 0 (.slice none 0 0) W /\ FeedB r ⟨#[]⟩ 0 (.slice none 0 0) W /\ Below r w W /\ StrAt W (some ⟨g,0,none⟩) xs /\ w1.heap.size + 2 <= W.heap.size:=by
 refine ⟨_,rfl,?_⟩;have hb : Below w1.heap.size w1 (((w1.drewN q).alloc (.cells #[.slice (some ⟨g,0,none⟩) xs.length cap,.string z,.bool false] 191)).alloc (.cells #[.string ⟨#[]⟩,.int .i64 0,.slice none 0 0] 49)):=by
  have h1 : Below w1.heap.size w1 (w1.drewN q):=⟨rfl,rfl,rfl,xh _,fun k hk => rfl⟩
  exact (h1.alloc (by simp) _).alloc (by simp) _
 have h2:=heap_alloc_new ((w1.drewN q).alloc (.cells #[.slice (some ⟨g,0,none⟩) xs.length cap,.string z,.bool false] 191)) (.cells #[.string ⟨#[]⟩,.int .i64 0,.slice none 0 0] 49);have h3:=heap_alloc_new (w1.drewN q) (.cells #[.slice (some ⟨g,0,none⟩) xs.length cap,.string z,.bool false] 191);have h4:=Lib.alloc_old ((w1.drewN q).alloc (.cells #[.slice (some ⟨g,0,none⟩) xs.length cap,.string z,.bool false] 191)) (.cells #[.string ⟨#[]⟩,.int .i64 0,.slice none 0 0] 49) w1.heap.size (by simp);have h5:=strAt_block hs (hb.block g hg2);refine ⟨⟨h4.trans (by simpa using h3),h5,hcap,by omega⟩,by unfold FeedB;simpa using h2,(hb.block r R1.lt).trans R1,L1.trans (hb.mono (by omega)),h5,by simp⟩
end Go.Proofs.YtcomifbfldoeiaaGreatDoor
namespace Tt
def stampL (day start : Int) : List UInt8:=dateL day ++ [84] ++ d2 (start / 60).toNat ++ d2 (start % 60).toNat ++ [48,48]
theorem dateL_len (day : Int) : (dateL day).length = 8:=rfl
theorem stampL_len (day start : Int) : (stampL day start).length = 15:=rfl
def stampsL (start : Int) : List Int -> List UInt8
 | [] => []
 | [d] => stampL d start
 | d :: e :: r => stampL d start ++ 44 :: stampsL start (e :: r)
theorem stampsL_len (start : Int) : ∀ xs : List Int,(stampsL start xs).length <= 16 * xs.length
 | [] => xh _
 | [x] => by show (stampL x start).length <= 16;rw [stampL_len];decide
 | x :: y :: r => by
  have:=stampsL_len start (y :: r);show (stampL x start ++ 44 :: stampsL start (y :: r)).length <= _
  rw [xd,stampL_len,xe];simp only [xe] at this ⊢;omega
theorem stampsL_join (start : Int) : ∀ xs : List Int,Go.Lib.join (xs.map fun d => stampL d start) [44] = stampsL start xs
 | [] => rfl
 | [x] => by rw [xb,Go.Lib.join_cons];show stampL x start ++ [] = _;rw [xp];rfl
 | x :: y :: r => by
  have:=stampsL_join start (y :: r);rw [xb,Go.Lib.join_cons] at this;rw [xb,Go.Lib.join_cons,xb];show stampL x start ++ ((44 :: stampL y start) ++ Go.Lib.joinTail [44] (r.map fun d => stampL d start)) = stampL x start ++ 44 :: stampsL start (y :: r)
  rw [<- this];rfl
theorem date_toNat {day : Int} (h0 : 0 <= day) (h1 : day <= 36524) : 2000 <= yOf day /\ yOf day <= 2099 /\ 1 <= mOf day /\ mOf day <= 12 /\ 1 <= dOf day /\ dOf day <= 31:=by
 have h:=date_some h0 h1;have:=mlen_bd (yOf day) (mOf day);exact ⟨h.y0,h.y1,h.m0,h.m1,h.d0,by have:=h.d1;omega⟩
end Tt
namespace Go.Proofs.YtcomifbfldoeiaaGreatDoor
open Go.RowKit
theorem str_size {l : List UInt8} {n : Nat} (h : l.length = n) : (ByteArray.mk l.toArray).size = n:=by rw [Lib.size_eq];simpa using h
theorem join_row {lo : Nat} {w : World} {v : Value} {xs : List ByteArray} (sep : ByteArray) (h : w.ownsRow lo 9 1 v xs.length (xs.map Value.string)) (hn : xs.length <= 100000) (hs : (Lib.join (xs.map (·.data.toList)) sep.data.toList).length <= 140737488355328) :
  Calls Tryz.prog 194 #[v,.string sep] w fun e w' => e = .returned (.string ⟨(Lib.join (xs.map (·.data.toList)) sep.data.toList).toArray⟩) /\ Below w.heap.size w w':=by
 rcases h.2 with ⟨hv,h0⟩ | ⟨g,cap,cur,hv,r2,r3,r4,r5⟩
 ·have hx : xs = []:=xf h0;subst hx;subst hv;refine (Tryz.strings_Join_none none 0 sep w).mono ?_;rintro e w' ⟨rfl,rfl⟩;exact ⟨rfl,Below.refl _ _⟩
 ·have hc:=h.cells (g:=g) (by rw [hv];rfl);subst hv;refine Tryz.strings_Join g 0 cap xs sep w (fun j x hj => ?_) (xa.1 r3).1 (by omega) (by omega) hs;have:=hc j (.string x) (by rw [List.getElem?_map,hj];rfl);rw [Addr.add_lit] at this;exact this
theorem mk_bytes {a : ByteArray} {l : List UInt8} (h : a.data.toList = l) : a = ⟨l.toArray⟩:=ByteArray.ext (Array.toList_inj.mp (by rw [h]))
theorem times251 (xs : List Int) (ao : Option Addr) (c : Nat) (start : Int) (B : Nat) (w : World) (hB : B <= w.heap.size) (hI : Ints B w ao xs) (hn : xs.length <= 1000) (hd : ∀ d ∈ xs,0 <= d /\ d <= 36524) (s0 : 0 <= start) (s1 : start < 1440) (hL : Lens w) (hP : Pow w) (h6 : 6 < w.heap.size) :
  Calls Tryz.prog 196 #[.slice ao xs.length c,.int .i64 start] w fun e w' => e = .returned (.string ⟨(Tt.stampsL start xs).toArray⟩) /\ Below w.heap.size w w':=by
 obtain ⟨i1,hj,hy0,hy2,hy3⟩:=info_parts infoString;have HI:=Lh hI;have HDD:=Lh hd;have HL:=Lh hL;have HP:=Lh hP;have hq0 : 0 <= start / 60:=by omega
 have hq1 : start / 60 <= 24:=by omega
 have hr0:=Int.emod_nonneg start (show (60 : Int) ≠ 0 by omega);have hr1:=Int.emod_lt_of_pos start (show (0 : Int) < 60 by omega);obtain ⟨n,hnn⟩ : ∃ n,n = xs.length:=⟨_,rfl⟩
 have HN:=Lh hnn;rw [<- hnn] at hn ⊢;clear hI hd hnn hL hP;go_enter Tryz.func196,Tryz.ntmps196;go_wp2_with fail;go_loopw [5,14] (fun ov iv wr => ∃ (i : Nat),iv = .int .i64 i /\ i <= n /\ Hid (wr.ownsRow w.heap.size 9 1 ov i ((xs.take i).map fun d => Value.string ⟨(Tt.stampL d start).toArray⟩)) /\ Hid (Below w.heap.size w wr)) (fun _ iv _ => n - (intOf iv).toNat)
 case atStart => exact ⟨0,rfl,xk _,Lh (xi _ _ _ _),Lh (Below.refl _ _)⟩
 case round =>
  obtain ⟨i,rfl,hi,HO,HB⟩:=hrel;have hsz:=HB.out.size;by_cases hlt : i < n
  ·have hx : i < xs.length:=by rw [<- HN.out];exact hlt
   have hlti : (i : Int) < n:=by omega
   obtain ⟨bo,oo,hao,hbo,hcell⟩:=(HI.out.below (HB.out.mono hB)).form (by omega);obtain ⟨x,hxe⟩ : ∃ x,x = xs[i]:=⟨_,rfl⟩
   have hc:=hcell i x (by rw [hxe];exact xc hx);have hxd:=HDD.out x (by rw [hxe];exact List.getElem_mem hx);have HT:=Lh (show xs.take (i + 1) = xs.take i ++ [x] from by rw [xj hx,hxe]);clear hcell hxe hbo;subst hao;obtain ⟨y0,y1,m0,m1,d0,d1⟩:=Tt.date_toNat hxd.1 hxd.2;have HR:=Lh (show Tt.stampL x start = Tt.d4 (Tt.yOf x).toNat ++ Tt.d2 (Tt.mOf x).toNat ++ Tt.d2 (Tt.dOf x).toNat ++ [84] ++ Tt.d2 (start / 60).toNat ++ Tt.d2 (start % 60).toNat ++ [48,48] from rfl);have HY:=Lh (Tt.padD_four (n:=(Tt.yOf x).toNat) (by omega) (by omega));have HM:=Lh (Tt.padD_two (n:=(Tt.mOf x).toNat) (by omega));have HD:=Lh (Tt.padD_two (n:=(Tt.dOf x).toNat) (by omega));have HQ:=Lh (Tt.padD_two (n:=(start / 60).toNat) (by omega));have HU:=Lh (Tt.padD_two (n:=(start % 60).toNat) (by omega));go_wp2_with fail;refine (parts308 x wr (HL.out.below (by omega) HB.out) hxd.1 hxd.2).mono ?_;rintro e w1 ⟨rfl,hw⟩;rw [hw];clear hw w1;generalize Tt.yOf x = y at *;generalize Tt.mOf x = m at *;generalize Tt.dOf x = d at *;have HB0:=Lh (show Below wr.heap.size wr wr from Below.refl _ _);have HP0:=Lh (HP.out.below h6 HB.out);have h6r : 6 < wr.heap.size:=by omega
   go_wp2_with fail;refine (digits310 y 4 wr (HP0.out.below h6r HB0.out) (by omega) (by omega) (by omega)).mono ?_;rintro e w1 ⟨rfl,hb1⟩;rw [HY.out];obtain ⟨s1,hs1⟩ : ∃ s,s = (⟨(Tt.d4 y.toNat).toArray⟩ : ByteArray):=⟨_,rfl⟩
   have z1 : s1.size = 4:=by rw [hs1];rfl
   rw [<- hs1];have HS1:=Lh hs1;have HB1:=Lh (HB0.out.trans (hb1.mono HB0.out.size));clear hs1 hb1;go_wp2_with fail;refine (digits310 m 2 w1 (HP0.out.below h6r HB1.out) (by omega) (by omega) (by omega)).mono ?_;rintro e w2 ⟨rfl,hb2⟩;rw [HM.out];obtain ⟨s2,hs2⟩ : ∃ s,s = (⟨(Tt.d2 m.toNat).toArray⟩ : ByteArray):=⟨_,rfl⟩
   have z2 : s2.size = 2:=by rw [hs2];rfl
   rw [<- hs2];have HS2:=Lh hs2;have HB2:=Lh (HB1.out.trans (hb2.mono HB1.out.size));clear hs2 hb2;go_wp2_with fail;refine (digits310 d 2 w2 (HP0.out.below h6r HB2.out) (by omega) (by omega) (by omega)).mono ?_;rintro e w3 ⟨rfl,hb3⟩;rw [HD.out];obtain ⟨s3,hs3⟩ : ∃ s,s = (⟨(Tt.d2 d.toNat).toArray⟩ : ByteArray):=⟨_,rfl⟩
   have z3 : s3.size = 2:=by rw [hs3];rfl
   rw [<- hs3];have HS3:=Lh hs3;have HB3:=Lh (HB2.out.trans (hb3.mono HB2.out.size));clear hs3 hb3;go_wp2_with fail;refine (digits310 (start / 60) 2 w3 (HP0.out.below h6r HB3.out) hq0 (by omega) (by omega)).mono ?_;rintro e w4 ⟨rfl,hb4⟩;rw [HQ.out];obtain ⟨s4,hs4⟩ : ∃ s,s = (⟨(Tt.d2 (start / 60).toNat).toArray⟩ : ByteArray):=⟨_,rfl⟩
   have z4 : s4.size = 2:=by rw [hs4];rfl
   rw [<- hs4];have HS4:=Lh hs4;have HB4:=Lh (HB3.out.trans (hb4.mono HB3.out.size));clear hs4 hb4;go_wp2_with fail;refine (digits310 (start % 60) 2 w4 (HP0.out.below h6r HB4.out) hr0 (by omega) (by omega)).mono ?_;rintro e w5 ⟨rfl,hb5⟩;rw [HU.out];obtain ⟨s5,hs5⟩ : ∃ s,s = (⟨(Tt.d2 (start % 60).toNat).toArray⟩ : ByteArray):=⟨_,rfl⟩
   have z5 : s5.size = 2:=by rw [hs5];rfl
   rw [<- hs5];have HS5:=Lh hs5;have HB5:=Lh (HB4.out.trans (hb5.mono HB4.out.size));clear hs5 hb5;have HO5:=Lh (ownsRow_below HO.out HB5.out);have hs5z:=HB5.out.size;obtain ⟨S,hS⟩ : ∃ S,S = s1 ++ s2 ++ s3 ++ ⟨#[84]⟩ ++ s4 ++ s5 ++ ⟨#[48,48]⟩:=⟨_,rfl⟩
   have HSS:=Lh hS;have HSX:=Lh (show S = ⟨(Tt.stampL x start).toArray⟩ from mk_bytes (by rw [hS];simp only [bs_app,HS1.out,HS2.out,HS3.out,HS4.out,HS5.out,HR.out]));clear hS;go_wp2_with (at_builtin;refine wpList_append_own_at _ rfl (.tmp 25) (.tmp 44) 143 rfl w.heap.size 9 i1 (.string ⟨#[]⟩) 1 16 Tryz.underlying143 hj hy0 hy2 hy3 rfl (by decide) _ _ _ rfl (HO5.out.alloc _) ⟨w5.heap.size,0,none⟩ 1 1 [.string S] rfl rfl (by rw [HSS.out];exact cell_one _ _ _) (by intro u hu;simp at hu;subst hu;rfl) (by unfold maxLen;omega) (by omega) (by simp;omega) ?_);intro v' w6 hown6 hgrow _ hat;have HB6:=Lh (show Below w.heap.size w w6 from HB.out.trans ((HB5.out.mono hsz).trans (((Below.refl _ w5).alloc (by omega) _).grown hgrow (by simp;omega) (fun k hk => (HO5.out.lt k hk).1))));have HO6:=Lh (show w6.ownsRow w.heap.size 9 1 v' (i + 1) ((xs.take (i + 1)).map fun d => Value.string ⟨(Tt.stampL d start).toArray⟩) from by rw [HT.out,xl,xb,xm,<- HSX.out,List.map_take];exact hown6);clear hown6 hgrow hat;go_wp2_with fail;go_roundw
   case rel => exact ⟨i + 1,by go_num,by omega,HO6,HB6⟩
   case measure => simp [intOf];omega
  ·have hlti : ¬ (i : Int) < n:=by omega
   have HE:=Lh (show xs.take i = xs from by rw [List.take_of_length_le (by rw [<- HN.out];omega)]);have hin : i = n:=by omega
   have HJ : Hid (Calls Tryz.prog 194 #[u5,.string ⟨#[44]⟩] wr fun e w' => e = .returned (.string ⟨(Tt.stampsL start xs).toArray⟩) /\ Below wr.heap.size wr w'):=Lh (by
    have ho:=HO.out;rw [HE.out,hin,HN.out,show (xs.map fun d => Value.string ⟨(Tt.stampL d start).toArray⟩) = (xs.map fun d => (⟨(Tt.stampL d start).toArray⟩ : ByteArray)).map Value.string from by rw [List.map_map];rfl,show xs.length = (xs.map fun d => (⟨(Tt.stampL d start).toArray⟩ : ByteArray)).length from by rw [xg]] at ho;have hjn : Lib.join ((xs.map fun d => (⟨(Tt.stampL d start).toArray⟩ : ByteArray)).map (·.data.toList)) (⟨#[44]⟩ : ByteArray).data.toList = Tt.stampsL start xs:=by rw [List.map_map];exact Tt.stampsL_join start xs
    have hl:=Tt.stampsL_len start xs;have hn2:=HN.out;have h:=join_row ⟨#[44]⟩ ho (by rw [xg];omega) (by rw [hjn];omega);rw [hjn] at h;exact h)
   clear hin;go_wp2_with fail;refine HJ.out.mono ?_;rintro e w7 ⟨rfl,hb7⟩;have HB7:=Lh (HB.out.trans (hb7.mono hsz));clear hb7 HJ;go_wp2_with fail;go_ret;exact ⟨rfl,HB7.out⟩
end Go.Proofs.YtcomifbfldoeiaaGreatDoor
namespace Tt
def nameW (d : Nat) : List UInt8:=([[77,79],[84,85],[87,69],[84,72],[70,82],[83,65],[83,85]] : List (List UInt8)).getD d []
def wdays (wd : Int) (k : Nat) : List Nat:=(List.range k).filter fun d => bit wd d
def byL (wd : Int) (k : Nat) : List UInt8:=Go.Lib.join ((wdays wd k).map nameW) [44]
def ruleL (s : Ser) : List UInt8:=[70,82,69,81,61,87,69,69,75,76,89,59,73,78,84,69,82,86,65,76,61] ++ Go.Lib.decDigits s.every.toNat ++ [59,66,89,68,65,89,61] ++ byL s.wd 7 ++ [59,85,78,84,73,76,61] ++ dateL s.last
theorem wdays_step (wd : Int) (k : Nat) : wdays wd (k + 1) = if bit wd k = true then wdays wd k ++ [k] else wdays wd k:=by
 unfold wdays;rw [List.range_succ,List.filter_append];by_cases h : bit wd k = true
 ·rw [if_pos h,List.filter_cons_of_pos (p:=fun d : Nat => bit wd d) h];rfl
 ·rw [if_neg h,List.filter_cons_of_neg (p:=fun d : Nat => bit wd d) h,List.filter_nil,xp]
theorem wdays_len (wd : Int) (k : Nat) : (wdays wd k).length <= k:=by
 unfold wdays;exact xn (List.length_filter_le _ _) (by rw [List.length_range];exact xh _)
theorem join_snoc (sep x : List UInt8) : ∀ xs : List (List UInt8),xs ≠ [] -> Go.Lib.join (xs ++ [x]) sep = Go.Lib.join xs sep ++ sep ++ x
 | [],h => absurd rfl h
 | y :: r,_ => by
  rw [List.cons_append,Go.Lib.join_cons,Go.Lib.join_cons];unfold Go.Lib.joinTail;simp
theorem byL_step {wd : Int} {k : Nat} (h : bit wd k = true) : byL wd (k + 1) = byL wd k ++ (if wdays wd k = [] then [] else [44]) ++ nameW k:=by
 unfold byL;rw [wdays_step,if_pos h,xl,xb,xm];by_cases h0 : wdays wd k = []
 ·rw [if_pos h0,h0];show Go.Lib.join [nameW k] [44] = [] ++ [] ++ nameW k
  rw [Go.Lib.join_cons];show nameW k ++ [] = _
  simp
 ·rw [if_neg h0,join_snoc [44] (nameW k) _ (by simpa using h0)]
theorem byL_same {wd : Int} {k : Nat} (h : bit wd k = false) : byL wd (k + 1) = byL wd k:=by
 unfold byL;rw [wdays_step,if_neg (by simp [h])]
theorem nameW_len {k : Nat} (h : k < 7) : (nameW k).length = 2:=(show ∀ k : Nat,k < 7 -> (nameW k).length = 2 by decide) k h
theorem byL_len (wd : Int) : ∀ k : Nat,k <= 7 -> (byL wd k).length <= 3 * k
 | 0,_ => by show (Go.Lib.join [] [44]).length <= 0;rw [Go.Lib.join_nil];exact xh _
 | k + 1,h => by
  have ih:=byL_len wd k (by omega);cases hb : bit wd k with
  | false => rw [byL_same hb];omega
  | true =>
   rw [byL_step hb,xd,xd,nameW_len (by omega)];split <;> simp <;> omega
end Tt
namespace Go.Proofs.YtcomifbfldoeiaaGreatDoor
open Go.RowKit
theorem ret_code {a a' : ByteArray} {c : Int} (h : a = a') : Ending.returned (.tuple #[.string a,.int .i64 c]) = .returned (.tuple #[.string a',.int .i64 c]):=by rw [h]
theorem names_at {i : Nat} (h : i < 7) : (ByteArray.mk #[77,79,84,85,87,69,84,72,70,82,83,65,83,85]).extract (2 * i) (2 * i + 2) = ⟨(Tt.nameW i).toArray⟩:=by
 rcases (show i = 0 ∨ i = 1 ∨ i = 2 ∨ i = 3 ∨ i = 4 ∨ i = 5 ∨ i = 6 by omega) with rfl | rfl | rfl | rfl | rfl | rfl | rfl <;> rfl
theorem format250 (s : Tt.Ser) (B : Nat) (w : World) (hs : Tt.serV s = 0) (ao ao' : Option Addr) (c c' : Nat) (hB : B <= w.heap.size) (hI : Ints B w ao s.ex) (hI' : Ints B w ao' s.xt) (hL : Lens w) (hP : Pow w) (h6 : 6 < w.heap.size) :
  Calls Tryz.prog 195 #[serVal s (.slice ao s.ex.length c) (.slice ao' s.xt.length c')] w fun e w' => e = .returned (.tuple #[.string ⟨(Tt.ruleL s).toArray⟩,.int .i64 0]) /\ Below w.heap.size w w':=by
 obtain ⟨i1,hj,hy0,hy2,hy3⟩:=info_parts infoString;have hh:=((Tt.serV_zero s).1 hs).1;have he0:=hh.e0;have he1:=hh.e1;have hl0:=hh.l0;have hl1:=hh.l1;have hw0:=hh.w0;have hw1:=hh.w1;have HV : Hid (Calls Tryz.prog 157 #[serVal s (.slice ao s.ex.length c) (.slice ao' s.xt.length c')] (w.alloc (.cells #[.int .i64 s.first,.int .i64 s.last,.int .i64 s.every,.int .i64 s.wd,.slice ao s.ex.length c,.slice ao' s.xt.length c'] 102)) fun e w' => e = .returned (.int .i64 0) /\ Below (w.heap.size + 1) (w.alloc (.cells #[.int .i64 s.first,.int .i64 s.last,.int .i64 s.every,.int .i64 s.wd,.slice ao s.ex.length c,.slice ao' s.xt.length c'] 102)) w'):=Lh (by
  have hb:=below_box w (.cells #[.int .i64 s.first,.int .i64 s.last,.int .i64 s.every,.int .i64 s.wd,.slice ao s.ex.length c,.slice ao' s.xt.length c'] 102);have h:=valid145_any s B (w.alloc (.cells #[.int .i64 s.first,.int .i64 s.last,.int .i64 s.every,.int .i64 s.wd,.slice ao s.ex.length c,.slice ao' s.xt.length c'] 102)) (by have:=hh.n;omega) (by have:=hh.n;omega) ao ao' c c' (by simp;omega) (hI.below (hb.mono hB)) (hI'.below (hb.mono hB));rw [hs] at h;refine h.mono fun e w' h2 => ⟨h2.1,h2.2.mono (by simp)⟩)
 have S0 : SerAt w.heap.size s (.slice ao s.ex.length c) (.slice ao' s.xt.length c') (w.alloc (.cells #[.int .i64 s.first,.int .i64 s.last,.int .i64 s.every,.int .i64 s.wd,.slice ao s.ex.length c,.slice ao' s.xt.length c'] 102)):=heap_alloc_new w _;have HS0:=Lh S0;have HB0:=Lh (below_box w (.cells #[.int .i64 s.first,.int .i64 s.last,.int .i64 s.every,.int .i64 s.wd,.slice ao s.ex.length c,.slice ao' s.xt.length c'] 102));have HL:=Lh hL;have HP:=Lh hP;obtain ⟨w0,hw00⟩ : ∃ w0,w0 = w.alloc (.cells #[.int .i64 s.first,.int .i64 s.last,.int .i64 s.every,.int .i64 s.wd,.slice ao s.ex.length c,.slice ao' s.xt.length c'] 102):=⟨_,rfl⟩
 rw [<- hw00] at HV HS0 HB0;obtain ⟨ex,hex⟩ : ∃ n,n = s.ex.length:=⟨_,rfl⟩
 obtain ⟨xt,hxt⟩ : ∃ n,n = s.xt.length:=⟨_,rfl⟩
 unfold serVal at HV ⊢;rw [<- hex,<- hxt] at HV HS0 hw00 ⊢;clear S0 hI hI' hL hP hh hs hex hxt;obtain ⟨e0,e1,e2,e3,e4,e5⟩:=HS0.out.cells;go_enter Tryz.func195,Tryz.ntmps195;go_upto_region 1 with (fail);rw [<- hw00];clear hw00;go_wp2_with fail;refine HV.out.mono ?_;rintro e w1 ⟨rfl,hb1⟩;have HB1:=Lh hb1;clear hb1 HV e0 e1 e2 e3 e4 e5;have hsz0:=HS0.out.lt;have HS1:=Lh (show SerAt w.heap.size s (.slice ao ex c) (.slice ao' xt c') w1 from (HB1.out.block w.heap.size (by omega)).trans HS0.out);have HBW:=Lh (show Below w.heap.size w w1 from HB0.out.trans (HB1.out.mono (by omega)));clear HS0 HB0 HB1;go_wp2_with fail;go_loopw [5,17] (fun ov iv wr => ∃ (i : Nat),iv = .int .i64 i /\ i <= 7 /\ Hid (wr.ownsRow (w.heap.size + 1) 9 1 ov (Tt.wdays s.wd i).length ((Tt.wdays s.wd i).map fun d => Value.string ⟨(Tt.nameW d).toArray⟩)) /\ Hid (SerAt w.heap.size s (.slice ao ex c) (.slice ao' xt c') wr) /\ Hid (Below w.heap.size w wr)) (fun _ iv _ => 7 - (intOf iv).toNat)
 case atStart => exact ⟨0,rfl,xk _,Lh (xi _ _ _ _),HS1,HBW⟩
 case round =>
  clear HS1 HBW;obtain ⟨i,rfl,hi,HO,HS,HB⟩:=hrel;have hsz:=HS.out.lt;obtain ⟨e0,e1,e2,e3,e4,e5⟩:=HS.out.cells;by_cases hlt : i < 7
  ·have hlti : (i : Int) < 7:=by omega
   have HBT:=Lh (show (bits .and .i64 (s.wd / 2 ^ i) 1 == 1) = Tt.bit s.wd (i : Int) from bit_is s.wd (i : Int) hw0 (by omega));cases hb : (bits .and .i64 (s.wd / 2 ^ i) 1 == 1)
   ·have HST:=Lh (show Tt.wdays s.wd (i + 1) = Tt.wdays s.wd i from by rw [Tt.wdays_step,if_neg (by rw [<- HBT.out,hb];simp)]);clear HBT;go_wp2_with fail;go_roundw
    case rel => exact ⟨i + 1,by go_num,by omega,by rw [HST.out];exact HO,HS,HB⟩
    case measure => simp [intOf];omega
   ·have HST:=Lh (show Tt.wdays s.wd (i + 1) = Tt.wdays s.wd i ++ [i] from by rw [Tt.wdays_step,if_pos (by rw [<- HBT.out,hb])]);have HNA:=Lh (names_at hlt);have hwl:=Tt.wdays_len s.wd i;clear HBT;go_wp2_with (at_builtin;refine wpList_append_own_at _ rfl (.tmp 26) (.tmp 33) 143 rfl (w.heap.size + 1) 9 i1 (.string ⟨#[]⟩) 1 16 Tryz.underlying143 hj hy0 hy2 hy3 rfl (by decide) _ _ _ rfl (HO.out.alloc _) ⟨wr.heap.size,0,none⟩ 1 1 [.string ⟨(Tt.nameW i).toArray⟩] rfl rfl (by rw [HNA.out];exact cell_one _ _ _) (by intro u hu;simp at hu;subst hu;rfl) (by unfold maxLen;omega) (by omega) (by simp;omega) ?_);intro v' w6 hown6 hgrow _ hat;have HBL:=Lh (show Below (w.heap.size + 1) wr w6 from ((Below.refl _ wr).alloc (by omega) _).grown hgrow (by simp;omega) (fun k hk => (HO.out.lt k hk).1));have HB6:=Lh (HB.out.trans (HBL.out.mono (by omega)));have HS6:=Lh (show SerAt w.heap.size s (.slice ao ex c) (.slice ao' xt c') w6 from (HBL.out.block w.heap.size (by omega)).trans HS.out);have HO6:=Lh (show w6.ownsRow (w.heap.size + 1) 9 1 v' (Tt.wdays s.wd (i + 1)).length ((Tt.wdays s.wd (i + 1)).map fun d => Value.string ⟨(Tt.nameW d).toArray⟩) from by rw [HST.out,xd,xl,xb,xm];exact hown6);clear hown6 hgrow hat;go_wp2_with fail;go_roundw
    case rel => exact ⟨i + 1,by go_num,by omega,HO6,HS6,HB6⟩
    case measure => simp [intOf];omega
  ·have hlti : ¬ (i : Int) < 7:=by omega
   have hi7 : i = 7:=by omega
   subst hi7;have HBL:=Lh (Tt.byL_len s.wd 7 (by omega));have HJ : Hid (∀ W : World,Below wr.heap.size wr W -> Calls Tryz.prog 194 #[u5,.string ⟨#[44]⟩] W fun e w' => e = .returned (.string ⟨(Tt.byL s.wd 7).toArray⟩) /\ Below W.heap.size W w'):=Lh (by
    intro W hW;have ho:=ownsRow_below HO.out hW;have hl:=Tt.wdays_len s.wd 7;rw [show ((Tt.wdays s.wd 7).map fun d => Value.string ⟨(Tt.nameW d).toArray⟩) = ((Tt.wdays s.wd 7).map fun d => (⟨(Tt.nameW d).toArray⟩ : ByteArray)).map Value.string from by rw [List.map_map];rfl,show (Tt.wdays s.wd 7).length = ((Tt.wdays s.wd 7).map fun d => (⟨(Tt.nameW d).toArray⟩ : ByteArray)).length from by rw [xg]] at ho;have hjn : Lib.join (((Tt.wdays s.wd 7).map fun d => (⟨(Tt.nameW d).toArray⟩ : ByteArray)).map (·.data.toList)) (⟨#[44]⟩ : ByteArray).data.toList = Tt.byL s.wd 7:=by rw [List.map_map];rfl
    have h:=join_row ⟨#[44]⟩ ho (by rw [xg];omega) (by rw [hjn];have:=HBL.out;omega);rw [hjn] at h;exact h)
   obtain ⟨y0,y1,m0,m1,d0,d1⟩:=Tt.date_toNat hl0 hl1;have HR:=Lh (show Tt.ruleL s = [70,82,69,81,61,87,69,69,75,76,89,59,73,78,84,69,82,86,65,76,61] ++ Lib.decDigits s.every.toNat ++ [59,66,89,68,65,89,61] ++ Tt.byL s.wd 7 ++ [59,85,78,84,73,76,61] ++ (Tt.d4 (Tt.yOf s.last).toNat ++ Tt.d2 (Tt.mOf s.last).toNat ++ Tt.d2 (Tt.dOf s.last).toNat) from rfl);have HY:=Lh (Tt.padD_four (n:=(Tt.yOf s.last).toNat) (by omega) (by omega));have HM:=Lh (Tt.padD_two (n:=(Tt.mOf s.last).toNat) (by omega));have HD:=Lh (Tt.padD_two (n:=(Tt.dOf s.last).toNat) (by omega));have HE:=Lh (Lib.decDigits_one (i:=s.every.toNat) (by omega));have hsw:=HB.out.size;have HPr:=Lh (HP.out.below h6 HB.out);have HLr:=Lh (HL.out.below (by omega) HB.out);clear hlti;go_wp2_with fail;refine (itoa136 s.every wr HPr.out (by omega) (by omega)).mono ?_;rintro e w2 ⟨rfl,hb2⟩;rw [HE.out];obtain ⟨s0,hs0⟩ : ∃ s0,s0 = (⟨[UInt8.ofNat (48 + s.every.toNat)].toArray⟩ : ByteArray):=⟨_,rfl⟩
   have z0 : s0.size = 1:=by rw [hs0];rfl
   rw [<- hs0];have HS0:=Lh hs0;have HB0:=Lh hb2;clear hs0 hb2;go_wp2_with fail;refine (HJ.out w2 HB0.out).mono ?_;rintro e w3 ⟨rfl,hb3⟩;obtain ⟨sj,hsj⟩ : ∃ q,q = (⟨(Tt.byL s.wd 7).toArray⟩ : ByteArray):=⟨_,rfl⟩
   have zj : sj.size <= 21:=by rw [hsj,size_mk];exact HBL.out
   rw [<- hsj];have HSJ:=Lh hsj;have HBJ:=Lh (HB0.out.trans (hb3.mono HB0.out.size));have HSW:=Lh (show SerAt w.heap.size s (.slice ao ex c) (.slice ao' xt c') w3 from (HBJ.out.block w.heap.size (by omega)).trans HS.out);clear hsj hb3 HJ e0 e1 e2 e3 e4 e5;obtain ⟨e0,e1,e2,e3,e4,e5⟩:=HSW.out.cells;have h6r : 6 < wr.heap.size:=by omega
   go_wp2_with fail;refine (parts308 s.last w3 (HLr.out.below (by omega) HBJ.out) hl0 hl1).mono ?_;rintro e wz ⟨rfl,hw⟩;rw [hw];clear hw wz;generalize Tt.yOf s.last = y at *;generalize Tt.mOf s.last = m at *;generalize Tt.dOf s.last = d at *;have HB0:=HBJ;go_wp2_with fail;refine (digits309 y 4 w3 (HPr.out.below h6r HB0.out) (by omega) (by omega) (by omega)).mono ?_;rintro e w4 ⟨rfl,hb1⟩;rw [HY.out];obtain ⟨s1,hs1⟩ : ∃ s,s = (⟨(Tt.d4 y.toNat).toArray⟩ : ByteArray):=⟨_,rfl⟩
   have z1 : s1.size = 4:=by rw [hs1];rfl
   rw [<- hs1];have HS1:=Lh hs1;have HB1:=Lh (HB0.out.trans (hb1.mono HB0.out.size));clear hs1 hb1;go_wp2_with fail;refine (digits309 m 2 w4 (HPr.out.below h6r HB1.out) (by omega) (by omega) (by omega)).mono ?_;rintro e w5 ⟨rfl,hb2⟩;rw [HM.out];obtain ⟨s2,hs2⟩ : ∃ s,s = (⟨(Tt.d2 m.toNat).toArray⟩ : ByteArray):=⟨_,rfl⟩
   have z2 : s2.size = 2:=by rw [hs2];rfl
   rw [<- hs2];have HS2:=Lh hs2;have HB2:=Lh (HB1.out.trans (hb2.mono HB1.out.size));clear hs2 hb2;go_wp2_with fail;refine (digits309 d 2 w5 (HPr.out.below h6r HB2.out) (by omega) (by omega) (by omega)).mono ?_;rintro e w6 ⟨rfl,hb3⟩;rw [HD.out];obtain ⟨s3,hs3⟩ : ∃ s,s = (⟨(Tt.d2 d.toNat).toArray⟩ : ByteArray):=⟨_,rfl⟩
   have z3 : s3.size = 2:=by rw [hs3];rfl
   rw [<- hs3];have HS3:=Lh hs3;have HB3:=Lh (HB2.out.trans (hb3.mono HB2.out.size));clear hs3 hb3;go_wp2_with fail;go_ret2;exact ⟨ret_code (mk_bytes (by simp only [bs_app,HS0.out,HSJ.out,HS1.out,HS2.out,HS3.out,HR.out,HE.out,List.append_assoc])),HB.out.trans (HB3.out.mono hsw)⟩
def evCells (e : Ev) (v v' : Value) : Array Value:=#[.string e.uid,.int .i64 e.seq,.bool e.canc,.int .i64 e.days.first,.int .i64 e.days.last,.int .i64 e.days.every,.int .i64 e.days.wd,v,v',.int .i64 e.start,.int .i64 e.mins,.string e.summ,.string e.loc]
def evVal (e : Ev) (v v' : Value) : Value:=.agg (evCells e v v')
def EvBox (b : Nat) (e : Ev) (v v' : Value) (w : World) : Prop:=w.heap[b]? = some (.cells (evCells e v v') 104 (0,0))
theorem EvBox.lt {b : Nat} {e : Ev} {v v' : Value} {w : World} (h : EvBox b e v v' w) : b < w.heap.size:=(xa.1 h).1
theorem EvBox.block {b : Nat} {e : Ev} {v v' : Value} {w w' : World} (h : EvBox b e v v' w) (hw : w'.heap[b]? = w.heap[b]?) : EvBox b e v v' w':=hw.trans h
structure EvC (b p : Nat) (e : Ev) (v v' : Value) (w : World) : Prop where
 c0 : w.cell? ⟨b,p,none⟩ = some (.string e.uid)
 c1 : w.cell? ⟨b,p + 1,none⟩ = some (.int .i64 e.seq)
 c2 : w.cell? ⟨b,p + 2,none⟩ = some (.bool e.canc)
 c3 : w.cell? ⟨b,p + 3,none⟩ = some (.int .i64 e.days.first)
 c4 : w.cell? ⟨b,p + 4,none⟩ = some (.int .i64 e.days.last)
 c5 : w.cell? ⟨b,p + 5,none⟩ = some (.int .i64 e.days.every)
 c6 : w.cell? ⟨b,p + 6,none⟩ = some (.int .i64 e.days.wd)
 c7 : w.cell? ⟨b,p + 7,none⟩ = some v
 c8 : w.cell? ⟨b,p + 8,none⟩ = some v'
 c9 : w.cell? ⟨b,p + 9,none⟩ = some (.int .i64 e.start)
 c10 : w.cell? ⟨b,p + 10,none⟩ = some (.int .i64 e.mins)
 c11 : w.cell? ⟨b,p + 11,none⟩ = some (.string e.summ)
 c12 : w.cell? ⟨b,p + 12,none⟩ = some (.string e.loc)
theorem EvBox.c {b : Nat} {e : Ev} {v v' : Value} {w : World} (h : EvBox b e v v' w) : EvC b 0 e v v' w:=by
 constructor <;> (rw [Lib.cell_of_heap h];rfl)
theorem ownsRow_len {w : World} {B : Nat} {e : TypeId} {k : Nat} {v : Value} {n : Nat} {xs : List Value} (h : w.ownsRow B e k v n xs) : ∃ p c,v = .slice p n c:=by
 rcases h.2 with ⟨rfl,h0⟩ | ⟨g,cap,cur,rfl,_⟩
 ·subst h0;exact ⟨_,_,rfl⟩
 ·exact ⟨_,_,rfl⟩
theorem checkV_range (e : Ev) (v : Int) (h : e.seq < 1 ∨ v < e.seq) : checkV e v = 3:=by unfold checkV;rw [if_pos h]
theorem checkV_ser (e : Ev) (v : Int) (h : ¬ (e.seq < 1 ∨ v < e.seq)) (h2 : Tt.serV e.days ≠ 0) : checkV e v = Tt.serV e.days:=by unfold checkV;rw [if_neg h,if_pos h2]
theorem checkV_empty (e : Ev) (v : Int) (h : ¬ (e.seq < 1 ∨ v < e.seq)) (h2 : Tt.serV e.days = 0) (h3 : Tt.serDays e.days = []) : checkV e v = 16:=by unfold checkV;rw [if_neg h,if_neg (by simp [h2]),if_pos h3]
theorem checkV_time (e : Ev) (v : Int) (h : ¬ (e.seq < 1 ∨ v < e.seq)) (h2 : Tt.serV e.days = 0) (h3 : Tt.serDays e.days ≠ []) :
  checkV e v = if e.start < 0 ∨ 1440 <= e.start ∨ e.mins < 1 ∨ 1440 < e.mins then 14
   else if e.summ.size = 0 ∨ Tt.labB e.summ.data.toList = false ∨ Tt.labB e.loc.data.toList = false then 4 else 0:=by unfold checkV;rw [if_neg h,if_neg (by simp [h2]),if_neg h3]
theorem nonempty_list (x : ByteArray) (h : x.size ≠ 0) : x.toList.isEmpty = false:=by
 rw [Lib.toList_data];cases hx : x.data.toList with
 | nil => exact absurd (by rw [Lib.size_eq,hx];rfl) h
 | cons c t => rfl
theorem empty_list (x : ByteArray) (h : x.size = 0) : x.toList = []:=by
 rw [Lib.toList_data];exact xf (by rw [<- Lib.size_eq];exact h)
theorem check96 (e : Ev) (v : Int) (B : Nat) (w : World) (ao ao' : Option Addr) (c c' : Nat) (hB : B <= w.heap.size) (hI : Ints B w ao e.days.ex) (hI' : Ints B w ao' e.days.xt) (hn : e.days.ex.length <= 4611686018427387903) (hn2 : e.days.xt.length <= 4611686018427387903) (hs : e.summ.size <= 4611686018427387904) (hl : e.loc.size <= 4611686018427387904) :
  Calls Tryz.prog 131 #[evVal e (.slice ao e.days.ex.length c) (.slice ao' e.days.xt.length c'),.int .i64 v] w fun x w' => x = .returned (.int .i64 (checkV e v)) /\ Below w.heap.size w w':=by
 have HI:=Lh hI;have HI':=Lh hI';have S0 : EvBox w.heap.size e (.slice ao e.days.ex.length c) (.slice ao' e.days.xt.length c') (w.alloc (.cells (evCells e (.slice ao e.days.ex.length c) (.slice ao' e.days.xt.length c')) 104)):=heap_alloc_new w _;have HS0:=Lh S0;clear hI hI' S0;unfold evCells at HS0;unfold evVal evCells;by_cases h1 : e.seq < 1 ∨ v < e.seq
 ·have HE:=Lh (checkV_range e v h1);rcases h1 with h1 | h1
  ·go_enter Tryz.func131,Tryz.ntmps131;go_wp2_with fail;go_ret;exact ⟨ret_int HE.out.symm,below_box _ _⟩
  ·by_cases h2 : e.seq < 1
   all_goals
    go_enter Tryz.func131,Tryz.ntmps131;go_wp2_with fail;go_ret;exact ⟨ret_int HE.out.symm,below_box _ _⟩
 ·have k1 : 1 <= e.seq:=by omega
  have k2 : e.seq <= v:=by omega
  have H1:=Lh h1;clear h1;go_enter Tryz.func131,Tryz.ntmps131;go_wp2_with fail;refine (valid145_any e.days B _ hn hn2 ao ao' c c' (by simp;omega) (HI.out.below ((below_box w _).mono hB)) (HI'.out.below ((below_box w _).mono hB))).mono ?_;rintro x w1 ⟨rfl,hb1⟩;have hbe1:=below_then (below_box w _) hb1;have HA1:=Lh (EvBox.block (e:=e) HS0.out (hb1.block _ (by simp)));clear hb1;by_cases hv : Tt.serV e.days = 0
  ·rw [hv];have HC1:=HA1.out.c;obtain ⟨c0,c1,c2,c3,c4,c5,c6,c7,c8,c9,c10,c11,c12⟩:=HC1;have HV:=Lh hv;clear hv;go_wp2_with fail;refine (days74 e.days B _ hn hn2 ao ao' c c' (xn hB hbe1.size) (HI.out.below (hbe1.mono hB)) (HI'.out.below (hbe1.mono hB))).mono ?_;rintro x w2 ⟨u,rfl,hown,hb2⟩;obtain ⟨q1,q2,hu⟩:=ownsRow_len hown;subst hu;have hbe2:=below_then hbe1 hb2;have HA2:=Lh (HA1.out.block (hb2.block _ HA1.out.lt));clear hb2 hown c0 c1 c2 c3 c4 c5 c6 c7 c8 c9 c10 c11 c12 HA1 hbe1;obtain ⟨c0,c1,c2,c3,c4,c5,c6,c7,c8,c9,c10,c11,c12⟩:=HA2.out.c;by_cases hd : Tt.serDays e.days = []
   ·have HE:=Lh (checkV_empty e v H1.out HV.out hd);have hlen : (Tt.serDays e.days).length = 0:=by rw [hd];rfl
    rw [hlen];clear hd hlen;go_wp2_with fail;go_ret;exact ⟨ret_int HE.out.symm,hbe2⟩
   ·have HE:=Lh (checkV_time e v H1.out HV.out hd);obtain ⟨n,hlen⟩ : ∃ n,(Tt.serDays e.days).length = n + 1:=⟨(Tt.serDays e.days).length - 1,by have:=List.length_pos_iff.2 hd;omega⟩
    rw [hlen];clear hd hlen;by_cases ht : e.start < 0 ∨ 1440 <= e.start ∨ e.mins < 1 ∨ 1440 < e.mins
    ·have HE2:=Lh (HE.out.trans (if_pos ht));clear HE;go_wp2_with fail
     all_goals first
      | (go_ret;exact ⟨ret_int HE2.out.symm,hbe2⟩)
      | (exfalso;omega)
    ·have HE2:=Lh (HE.out.trans (if_neg ht));have t1 : ¬ e.start < 0:=by omega
     have t2 : ¬ 1440 <= e.start:=by omega
     have t3 : ¬ e.mins < 1:=by omega
     have t4 : ¬ 1440 < e.mins:=by omega
     clear HE ht;by_cases hz : e.summ.size = 0
     ·have HE3:=Lh (HE2.out.trans (if_pos (.inl hz)));have hz1:=empty_list _ hz;have hz2 : (!e.summ.toList.isEmpty) = false:=by rw [hz1];rfl
      clear hz;go_wp2_with fail;go_ret;exact ⟨ret_int HE3.out.symm,hbe2⟩
     ·have hz1:=nonempty_list _ hz;have HZ:=Lh hz;clear hz;go_wp2_with fail;refine (label167 e.summ _ hs).mono ?_;rintro x w3 ⟨rfl,hw3⟩;have hbe3:=below_then hbe2 hw3;have HA3:=Lh (HA2.out.block (hw3.block _ HA2.out.lt));clear c0 c1 c2 c3 c4 c5 c6 c7 c8 c9 c10 c11 c12 HA2 hbe2 hw3;obtain ⟨c0,c1,c2,c3,c4,c5,c6,c7,c8,c9,c10,c11,c12⟩:=HA3.out.c;cases hl1 : Tt.labB e.summ.data.toList
      ·have HE3:=Lh (HE2.out.trans (if_pos (.inr (.inl hl1))));clear hl1;go_wp2_with fail;go_ret;exact ⟨ret_int HE3.out.symm,hbe3⟩
      ·have HL1:=Lh hl1;clear hl1;go_wp2_with fail;refine (label167 e.loc _ hl).mono ?_;rintro x w4 ⟨rfl,hw4⟩;have hbe4:=below_then hbe3 hw4;cases hl2 : Tt.labB e.loc.data.toList
       ·have HE3:=Lh (HE2.out.trans (if_pos (.inr (.inr hl2))));clear hl2;go_wp2_with fail;go_ret;exact ⟨ret_int HE3.out.symm,hbe4⟩
       ·have HE3:=Lh (HE2.out.trans (if_neg (by rw [hl2,HL1.out];simp [HZ.out])));clear hl2;go_wp2_with fail;go_ret;exact ⟨ret_int HE3.out.symm,hbe4⟩
  ·have HE:=Lh (checkV_ser e v H1.out hv);have hv2 : (Tt.serV e.days != 0) = true:=by simp [hv]
   clear hv;go_wp2_with fail;go_ret;exact ⟨ret_int HE.out.symm,hbe1⟩
end Go.Proofs.YtcomifbfldoeiaaGreatDoor
