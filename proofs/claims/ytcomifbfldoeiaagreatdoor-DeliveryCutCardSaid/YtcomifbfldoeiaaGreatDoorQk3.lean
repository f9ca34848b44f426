/- strings.Builder over this program: contracts of copyCheck, WriteByte, WriteString, String, Len with a frame that keeps all blocks below a bound but the builder's own. Plain facts on texts of a calendar: how a text is escaped and read back, how a line is folded, what a text is unfolded to. No program in sight. Condition: none. feed.Escape: its contract. feed.Unescape: its contract. codes.Valid: its contract. -/
import Derived.Test.YtcomifbfldoeiaaGreatDoorQk1
import Derived.Lib.Builder
import Derived.Lib.AppendStr
import Derived.Lib.Walk
import Derived.Laws.Externs
import Derived.Test.YtcomifbfldoeiaaGreatDoorShelf
import Derived.Lib.Split
import Derived.Laws.IdiomStrings
import Derived.LoopTactic
open Array renaming getElem?_eq_some_iff->xa
open Nat renaming le_refl->xb,zero_le->xi
open List renaming length_cons->xc,getElem?_eq_some_iff->xd,append_assoc->xe,mem_cons->xf,take_append_drop->xg,flatMap_cons->xh,length_append->xj,flatten_cons->xk
set_option maxRecDepth 100000
set_option maxHeartbeats 40000000
namespace Go.Proofs.YtcomifbfldoeiaaGreatDoor
open Go.RowKit
structure Bld (b B : Nat) (l : List UInt8) (w : World) : Prop where
 lt : b < B
 ex : ∃ p v,(p = .pointer none ∨ p = .pointer (some ⟨b,0,none⟩)) /\ w.heap[b]? = some (.cells #[p,v] 149 (0,0)) /\ w.ownsRow B 5 1 v l.length (Lib.byteCells l)
structure But (b B : Nat) (w w' : World) : Prop where
 os : w'.os = w.os
 tape : w'.tape = w.tape
 output : w'.output = w.output
 size : w.heap.size <= w'.heap.size
 block : ∀ k,k < B -> k ≠ b -> w'.heap[k]? = w.heap[k]?
theorem But.refl (b B : Nat) (w : World) : But b B w w:=⟨rfl,rfl,rfl,xb _,fun _ _ _ => rfl⟩
theorem But.trans {b B : Nat} {w1 w2 w3 : World} (h : But b B w1 w2) (k : But b B w2 w3) : But b B w1 w3 :=
 ⟨k.os.trans h.os,k.tape.trans h.tape,k.output.trans h.output,Nat.le_trans h.size k.size,fun i hi hb => (k.block i hi hb).trans (h.block i hi hb)⟩
theorem But.below {b B B' : Nat} {w w' : World} (h : But b B w w') (h1 : B' <= b) (h2 : B' <= B) : Below B' w w' :=
 ⟨h.os,h.tape,h.output,h.size,fun k hk => h.block k (by omega) (by omega)⟩
theorem But.of_below {b B : Nat} {w w' : World} (h : Below B w w') : But b B w w':=⟨h.os,h.tape,h.output,h.size,fun k hk _ => h.block k hk⟩
theorem But.cell {b B : Nat} {w w' : World} (h : But b B w w') {p : Addr} (h1 : p.block < B) (h2 : p.block ≠ b) : w'.cell? p = w.cell? p:=World.cell?_of_block (w:=w) (h.block p.block h1 h2)
theorem Bld.fresh (w : World) (B : Nat) (h1 : w.heap.size < B) : Bld w.heap.size B [] (w.alloc (.cells #[.pointer none,.slice none 0 0] 149)) :=
 ⟨h1,_,_,.inl rfl,heap_alloc_new w _,World.ownsRow_nil _ _ _ _⟩
theorem Bld.kept {b B : Nat} {l : List UInt8} {w w' : World} (h : Bld b B l w) (hw : Below w.heap.size w w') : Bld b B l w':=by
 obtain ⟨p,v,hp,hb,hown⟩:=h.ex;refine ⟨h.lt,p,v,hp,(hw.block b (xa.1 hb).1).trans hb,hown.1,?_⟩;rcases hown.2 with h1 | ⟨g,cap,cur,r1,r2,r3,r4⟩
 ·exact .inl h1
 ·exact .inr ⟨g,cap,cur,r1,r2,(hw.block g (xa.1 r3).1).trans r3,r4⟩
theorem Bld.blt {b B : Nat} {l : List UInt8} {w : World} (h : Bld b B l w) : b < w.heap.size:=by
 obtain ⟨p,v,hp,hb,hown⟩:=h.ex;exact (xa.1 hb).1
theorem sizeBuilder : (Tryz.prog.info? 149).map (·.size) = some 2:=by kernel_rfl
theorem liesBuilder : liesAt Tryz.prog Tryz.prog.depth 149 (2 / Tryz.prog.cellsOf 149) 0 149 1 = true:=by kernel_rfl
theorem infoByte : (Tryz.prog.info? 5).map (fun i => (i.zero,i.size,i.bytes)) = some (some (.int .u8 0),1,1):=by kernel_rfl
theorem copyCheck_used (b : Nat) (w : World) (h0 : w.cell? ⟨b,0,none⟩ = some (.pointer (some ⟨b,0,none⟩))) :
  Calls Tryz.prog 134 #[.pointer (some ⟨b,0,none⟩)] w fun e w' => e = .returned (.tuple #[]) /\ w' = w:=by
 obtain ⟨j,hj,_⟩:=Option.map_eq_some_iff.1 sizeBuilder;go_enter Tryz.func134,Tryz.ntmps134;go_wp2
 rw [Lib.run_neq_ptr_same w _ Tryz.underlying147 hj];go_wp2
 go_end0
 exact ⟨rfl,rfl⟩
theorem copyCheck_fresh (b : Nat) (w : World) (h0 : w.cell? ⟨b,0,none⟩ = some (.pointer none)) (hsh : w.shape? b = some (149,2)) (hfz : w.frozen? ⟨b,0,none⟩ = false) :
  Calls Tryz.prog 134 #[.pointer (some ⟨b,0,none⟩)] w fun e w' => e = .returned (.tuple #[]) /\ w' = w.setCell ⟨b,0,none⟩ (.pointer (some ⟨b,0,none⟩)):=by
 obtain ⟨j,hj,hjs⟩:=Option.map_eq_some_iff.1 sizeBuilder;go_enter Tryz.func134,Tryz.ntmps134;go_wp2
 rw [Lib.run_to_unsafe w ⟨b,0,none⟩ Tryz.underlying147 Tryz.underlying253 hj (by rw [hjs];decide) hsh (Nat.zero_lt_succ 1)];simp only [Result.andThen];rw [Oper.upon_value];go_wp2
 rw [run_callFunc_extern Tryz.func197 (by kernel_rfl) (by kernel_rfl) (by kernel_rfl) (e:=Extern.AbiNoEscape.same) (by kernel_rfl)];rw [Lib.run_noEscape];simp only [Result.andThen];rw [Oper.upon_value];go_wp2
 rw [Lib.run_from_unsafe w ⟨b,0,none⟩ Tryz.underlying253 Tryz.underlying147 hj hsh liesBuilder];simp only [Result.andThen];rw [Oper.upon_value];go_wp2
 go_end0
 exact ⟨rfl,rfl⟩
theorem ownsRow_setCell_out {w : World} {B : Nat} {v : Value} {n : Nat} {xs : List Value} {b j : Nat} (h : w.ownsRow B 5 1 v n xs) (hb : b < B) (u : Value) : (w.setCell ⟨b,j,none⟩ u).ownsRow B 5 1 v n xs :=
 ownsRow_setCell_below h (a:=⟨b,j,none⟩) hb u
theorem copyCheck_any (b B : Nat) (l : List UInt8) (w : World) (h : Bld b B l w) :
  Calls Tryz.prog 134 #[.pointer (some ⟨b,0,none⟩)] w fun e w' => e = .returned (.tuple #[]) /\ (∃ v,w'.heap[b]? = some (.cells #[.pointer (some ⟨b,0,none⟩),v] 149 (0,0)) /\ w'.ownsRow B 5 1 v l.length (Lib.byteCells l)) /\ But b B w w':=by
 obtain ⟨p,v,hp,hb,hown⟩:=h.ex;rcases hp with rfl | rfl
 ·refine (copyCheck_fresh b w (by simp [World.cell?,hb]) (by simp [World.shape?,hb]) (by simp [World.frozen?,hb])).mono ?_;rintro e w' ⟨rfl,rfl⟩;refine ⟨rfl,⟨v,by simp [World.setCell,Array.getElem?_modify,hb],ownsRow_setCell_out hown h.lt _⟩,⟨rfl,rfl,rfl,by simp [World.setCell],fun k _ hk => Below.heap_setCell _ _ _ _ hk⟩⟩
 ·refine (copyCheck_used b w (by simp [World.cell?,hb])).mono ?_;rintro e w' ⟨rfl,rfl⟩;exact ⟨rfl,⟨v,hb,hown⟩,But.refl _ _ _⟩
theorem Bld.put {b B : Nat} {l : List UInt8} {w : World} {v v' : Value} (h1 : b < B) (hb : w.heap[b]? = some (.cells #[.pointer (some ⟨b,0,none⟩),v] 149 (0,0))) (hown : w.ownsRow B 5 1 v' l.length (Lib.byteCells l)) :
  Bld b B l (w.setCell ⟨b,1,none⟩ v') :=
 ⟨h1,_,v',.inr rfl,by simp [World.setCell,Array.getElem?_modify,hb],ownsRow_setCell_out hown h1 _⟩
theorem writeByte_any (b B : Nat) (l : List UInt8) (n : Int) (c : UInt8) (hn : n = c.toNat) (w : World) (h : Bld b B l w) (hlen : l.length + 1 <= 140737488355328) (hB : B <= w.heap.size) :
  Calls Tryz.prog 135 #[.pointer (some ⟨b,0,none⟩),.int .u8 n] w fun e w' => e = .returned .nilIface /\ Bld b B (l ++ [c]) w' /\ But b B w w':=by
 subst hn;obtain ⟨i0,hi,hz0,hz1,hz2⟩:=info_parts infoByte;have hbB:=h.lt;go_enter Tryz.func135,Tryz.ntmps135;go_wp2_with fail;refine (copyCheck_any b B l _ h).mono ?_;rintro e w1 ⟨rfl,⟨v,hbk,hown⟩,hb1⟩;have hs1:=hb1.size;have c0 : w1.cell? ⟨b,0,none⟩ = some (.pointer (some ⟨b,0,none⟩)):=by rw [Lib.cell_of_heap hbk];rfl
 have c1 : w1.cell? ⟨b,1,none⟩ = some v:=by rw [Lib.cell_of_heap hbk];rfl
 go_wp2_with (at_builtin;refine wpList_append_own _ rfl _ _ 145 rfl B 5 i0 (.int .u8 0) 1 1 Tryz.underlying145 hi hz0 hz1 hz2 rfl (by decide) _ _ _ rfl (hown.alloc _) ⟨w1.heap.size,0,none⟩ 1 1 [.int .u8 c.toNat] rfl rfl ?c1 ?c2 ?c3 ?c4 ?c5 ?_)
 case c1 =>
  intro j u hj;match j,hj with
  | 0,hj => simp at hj;subst hj;simp [Addr.add]
 case c2 => intro u hu;simp at hu;subst hu;rfl
 case c3 => unfold maxLen;omega
 case c4 => omega
 case c5 => simp;omega
 intro v' w2 hown' hgrow _;have hlt : b < w1.heap.size:=(xa.1 hbk).1;have hne : some b ≠ v.ownBlock:=by
  intro e;have:=(hown.lt b e.symm).1;omega
 have hb2 : w2.heap[b]? = some (.cells #[.pointer (some ⟨b,0,none⟩),v] 149 (0,0)):=by
  rw [hgrow.block b (by simp;omega) hne,Lib.alloc_old w1 _ b hlt];exact hbk
 have d1 : w2.cell? ⟨b,1,none⟩ = some v:=by rw [Lib.cell_of_heap hb2];rfl
 have f1 : w2.frozen? ⟨b,1,none⟩ = false:=Lib.frozen_of_heap hb2 1;obtain ⟨g,cap,rfl⟩ : ∃ g cap,v' = .slice (some ⟨g,0,none⟩) (l.length + 1) cap:=by
  rcases hown'.2 with ⟨_,h0⟩ | ⟨g,cap,cur,hv,_⟩
  ·omega
  ·exact ⟨g,cap,hv⟩
 go_wp2
 go_ret;refine ⟨rfl,Bld.put hbB hb2 (by simpa [Lib.byteCells] using hown'),?_⟩;refine hb1.trans ⟨hgrow.os,hgrow.tape,hgrow.output,by have:=hgrow.size;simp [World.setCell] at this ⊢;omega,fun k hk hkb => ?_⟩;rw [Below.heap_setCell _ _ _ _ hkb,hgrow.block k (by simp;omega) (by intro e;have:=(hown.lt k e.symm).1;omega),Lib.alloc_old w1 _ k (by omega)]
theorem writeString_any (b B : Nat) (l : List UInt8) (s : ByteArray) (w : World) (h : Bld b B l w) (hlen : l.length + s.size <= 140737488355328) (hB : B <= w.heap.size) :
  Calls Tryz.prog 71 #[.pointer (some ⟨b,0,none⟩),.string s] w fun e w' => e = .returned (.tuple #[.int .i64 s.size,.nilIface]) /\ Bld b B (l ++ s.data.toList) w' /\ But b B w w':=by
 obtain ⟨i0,hi,hz0,hz1,hz2⟩:=info_parts infoByte;have hbB:=h.lt;go_enter Tryz.func71,Tryz.ntmps71;go_wp2_with fail;refine (copyCheck_any b B l _ h).mono ?_;rintro e w1 ⟨rfl,⟨v,hbk,hown⟩,hb1⟩;have hs1:=hb1.size;have c0 : w1.cell? ⟨b,0,none⟩ = some (.pointer (some ⟨b,0,none⟩)):=by rw [Lib.cell_of_heap hbk];rfl
 have c1 : w1.cell? ⟨b,1,none⟩ = some v:=by rw [Lib.cell_of_heap hbk];rfl
 go_wp2_with (at_builtin;refine Lib.wpList_append_own_string _ rfl _ _ 145 9 rfl B 5 i0 Tryz.underlying145 Tryz.underlying9 hi hz0 hz1 hz2 _ _ _ rfl hown s rfl ?c3 ?c4 ?c5 ?_)
 case c3 => unfold maxLen;omega
 case c4 => omega
 case c5 => omega
 intro v' w2 hown' hgrow _;have hlt : b < w1.heap.size:=(xa.1 hbk).1;have hne : some b ≠ v.ownBlock:=by
  intro e;have:=(hown.lt b e.symm).1;omega
 have hb2 : w2.heap[b]? = some (.cells #[.pointer (some ⟨b,0,none⟩),v] 149 (0,0)):=by
  rw [hgrow.block b hlt hne];exact hbk
 have d1 : w2.cell? ⟨b,1,none⟩ = some v:=by rw [Lib.cell_of_heap hb2];rfl
 have f1 : w2.frozen? ⟨b,1,none⟩ = false:=Lib.frozen_of_heap hb2 1;obtain ⟨ao,n',cap,rfl⟩ : ∃ ao n' cap,v' = .slice ao n' cap:=by
  rcases hown'.2 with ⟨hv,h0⟩ | ⟨g,cap,cur,hv,_⟩
  ·exact ⟨_,_,_,hv⟩
  ·exact ⟨_,_,_,hv⟩
 go_wp2
 go_ret2;refine ⟨rfl,Bld.put hbB hb2 ?_,?_⟩
 ·have e : s.size = s.data.toList.length:=Lib.size_eq s;have:=hown';rw [e] at this;simpa [Lib.byteCells,Lib.strCells] using this
 refine hb1.trans ⟨hgrow.os,hgrow.tape,hgrow.output,by have:=hgrow.size;simp [World.setCell] at this ⊢;omega,fun k hk hkb => ?_⟩;rw [Below.heap_setCell _ _ _ _ hkb,hgrow.block k (by omega) (by intro e;have:=(hown.lt k e.symm).1;omega)]
theorem Bld.is {b B : Nat} {l : List UInt8} {w : World} (h : Bld b B l w) : Lib.IsBuilder 149 5 b b (Lib.byteCells l) w:=by
 obtain ⟨p,v,hp,hb,hown⟩:=h.ex;have hlt:=h.lt;have hown' : w.ownsRow b 5 1 v l.length (Lib.byteCells l):=by
  refine ⟨hown.1,?_⟩;rcases hown.2 with h1 | ⟨g,cap,cur,r1,r2,r3⟩
  ·exact .inl h1
  ·exact .inr ⟨g,cap,cur,r1,by omega,r3⟩
 have hne : v.ownBlock ≠ some b:=fun e => by have:=(hown.lt b e).1;omega
 rcases hp with rfl | rfl
 ·exact .inl ⟨xb _,v,hb,by rw [Lib.byteCells_length];exact hown',hne⟩
 ·exact .inr ⟨xb _,v,hb,by rw [Lib.byteCells_length];exact hown',hne⟩
theorem string_any (b B : Nat) (l : List UInt8) (w : World) (h : Bld b B l w) :
  Calls Tryz.prog 74 #[.pointer (some ⟨b,0,none⟩)] w fun e w' => e = .returned (.string ⟨l.toArray⟩) /\ Below b w w' :=
 Tryz.Builder_String_any b b l w h.is (Nat.le_of_lt h.blt)
theorem len_any (b B : Nat) (l : List UInt8) (w : World) (h : Bld b B l w) :
  Calls Tryz.prog 73 #[.pointer (some ⟨b,0,none⟩)] w fun e w' => e = .returned (.int .i64 l.length) /\ w' = w:=by
 have:=Tryz.Builder_Len b b (Lib.byteCells l) w h.is;rw [Lib.byteCells_length] at this;exact this
end Go.Proofs.YtcomifbfldoeiaaGreatDoor
namespace Tt
def escB (c : UInt8) : List UInt8:=if c = 92 ∨ c = 59 ∨ c = 44 then [92,c] else if c = 10 then [92,110] else [c]
def esc (l : List UInt8) : List UInt8:=l.flatMap escB
def unesc : List UInt8 -> Option (List UInt8)
 | [] => some []
 | c :: r =>
  if c = 59 ∨ c = 44 ∨ c = 10 then none
  else if c = 92 then
   match r with
   | [] => none
   | d :: r' => if d = 92 ∨ d = 59 ∨ d = 44 then (unesc r').map (d :: ·) else if d = 110 ∨ d = 78 then (unesc r').map (10 :: ·) else none
  else (unesc r).map (c :: ·)
theorem esc_cons (c : UInt8) (r : List UInt8) : esc (c :: r) = escB c ++ esc r:=by simp [esc]
theorem unesc_nil : unesc [] = some []:=by unfold unesc;rfl
theorem unesc_bad (c : UInt8) (r : List UInt8) (h : c = 59 ∨ c = 44 ∨ c = 10) : unesc (c :: r) = none:=by rw [unesc.eq_def];simp only;rw [if_pos h]
theorem unesc_end : unesc [92] = none:=by rw [unesc.eq_def];rfl
theorem unesc_same (d : UInt8) (r : List UInt8) (h : d = 92 ∨ d = 59 ∨ d = 44) : unesc (92 :: d :: r) = (unesc r).map (d :: ·):=by
 rw [unesc.eq_def];simp only;rw [if_neg (by decide)];simp only [if_true];rw [if_pos h]
theorem unesc_feed (d : UInt8) (r : List UInt8) (h : d = 110 ∨ d = 78) : unesc (92 :: d :: r) = (unesc r).map (10 :: ·):=by
 rw [unesc.eq_def];simp only;rw [if_neg (by decide)];simp only [if_true];rw [if_neg (by rcases h with rfl | rfl <;> decide),if_pos h]
theorem unesc_wrong (d : UInt8) (r : List UInt8) (h : ¬ (d = 92 ∨ d = 59 ∨ d = 44)) (h2 : ¬ (d = 110 ∨ d = 78)) : unesc (92 :: d :: r) = none:=by
 rw [unesc.eq_def];simp only;rw [if_neg (by decide)];simp only [if_true];rw [if_neg h,if_neg h2]
theorem unesc_plain (c : UInt8) (r : List UInt8) (h : ¬ (c = 59 ∨ c = 44 ∨ c = 10)) (h2 : c ≠ 92) : unesc (c :: r) = (unesc r).map (c :: ·):=by
 rw [unesc.eq_def];simp only;rw [if_neg h,if_neg h2]
theorem unesc_esc (l : List UInt8) : unesc (esc l) = some l:=by
 induction l with
 | nil => exact unesc_nil
 | cons c r ih =>
  rw [esc_cons];unfold escB;by_cases h : c = 92 ∨ c = 59 ∨ c = 44
  ·rw [if_pos h];show unesc (92 :: c :: esc r) = _
   rw [unesc_same c _ h,ih];rfl
  ·rw [if_neg h];by_cases h2 : c = 10
   ·rw [if_pos h2];show unesc (92 :: 110 :: esc r) = _
    rw [unesc_feed 110 _ (.inl rfl),ih,h2];rfl
   ·rw [if_neg h2];show unesc (c :: esc r) = _
    rw [unesc_plain c _ (by intro e;rcases e with e | e | e <;> simp_all) (fun e => h (.inl e)),ih];rfl
theorem escB_length (c : UInt8) : (escB c).length <= 2:=by
 unfold escB;split
 ·simp
 ·split <;> simp
theorem esc_length (l : List UInt8) : (esc l).length <= 2 * l.length:=by
 induction l with
 | nil => simp [esc]
 | cons c r ih => rw [esc_cons,xj];have:=escB_length c;simp;omega
theorem unesc_length : ∀ (n : Nat) (l x : List UInt8),l.length <= n -> unesc l = some x -> x.length <= l.length
 | _,[],x,_,h => by rw [unesc_nil] at h;simp at h;subst h;simp
 | 0,c :: r,_,hn,_ => by simp at hn
 | n + 1,c :: r,x,hn,h => by
  simp only [xc] at hn;by_cases h1 : c = 59 ∨ c = 44 ∨ c = 10
  ·rw [unesc_bad c r h1] at h;cases h
  ·by_cases h2 : c = 92
   ·subst h2;cases r with
    | nil => rw [unesc_end] at h;cases h
    | cons d r' =>
     simp only [xc] at hn;by_cases h3 : d = 92 ∨ d = 59 ∨ d = 44
     ·rw [unesc_same d r' h3] at h;obtain ⟨y,hy,rfl⟩:=Option.map_eq_some_iff.1 h;have:=unesc_length n r' y (by omega) hy;simp;omega
     ·by_cases h4 : d = 110 ∨ d = 78
      ·rw [unesc_feed d r' h4] at h;obtain ⟨y,hy,rfl⟩:=Option.map_eq_some_iff.1 h;have:=unesc_length n r' y (by omega) hy;simp;omega
      ·rw [unesc_wrong d r' h3 h4] at h;cases h
   ·rw [unesc_plain c r h1 h2] at h;obtain ⟨y,hy,rfl⟩:=Option.map_eq_some_iff.1 h;have:=unesc_length n r y (by omega) hy;simp;omega
/-! ### Lines -/
def chopGo : List UInt8 -> List UInt8 -> Option (List (List UInt8))
 | cur,[] => if cur = [] then some [] else none
 | cur,c :: r =>
  if c = 10 then none
  else if c = 13 then
   match r with
   | [] => none
   | d :: r' => if d = 10 then (chopGo [] r').map (cur :: ·) else none
  else chopGo (cur ++ [c]) r
def begins (l : List UInt8) : Bool:=match l with
 | [] => false
 | c :: _ => c == 32 || c == 9
def joinL : List (List UInt8) -> List (List UInt8) -> Option (List (List UInt8))
 | out,[] => some out
 | out,l :: r => if begins l then (if out = [] then none else joinL (out.dropLast ++ [out.getLastD [] ++ l.tail]) r) else joinL (out ++ [l]) r
def unf (text : List UInt8) : Option (List (List UInt8)):=if text = [] then none else (chopGo [] text).bind (joinL [])
def Clean (l : List UInt8) : Prop:=∀ c ∈ l,c ≠ 13 /\ c ≠ 10
instance (l : List UInt8) : Decidable (Clean l):=by unfold Clean;infer_instance
def crlf (l : List UInt8) : List UInt8:=l ++ [13,10]
theorem chopGo_nil (cur : List UInt8) : chopGo cur [] = if cur = [] then some [] else none:=by rw [chopGo.eq_def]
theorem chopGo_feed (cur r : List UInt8) : chopGo cur (10 :: r) = none:=by rw [chopGo.eq_def];rfl
theorem chopGo_cut (cur : List UInt8) : chopGo cur [13] = none:=by rw [chopGo.eq_def];rfl
theorem chopGo_end (cur r : List UInt8) : chopGo cur (13 :: 10 :: r) = (chopGo [] r).map (cur :: ·):=by rw [chopGo.eq_def];simp
theorem chopGo_lone (cur r : List UInt8) (d : UInt8) (h : d ≠ 10) : chopGo cur (13 :: d :: r) = none:=by rw [chopGo.eq_def];simp [h]
theorem chopGo_plain (cur r : List UInt8) (c : UInt8) (h : c ≠ 13) (h2 : c ≠ 10) : chopGo cur (c :: r) = chopGo (cur ++ [c]) r:=by rw [chopGo.eq_def];simp [h,h2]
theorem chopGo_clean (l : List UInt8) (h : Clean l) : ∀ (cur r : List UInt8),chopGo cur (crlf l ++ r) = (chopGo [] r).map ((cur ++ l) :: ·):=by
 induction l with
 | nil => intro cur r;show chopGo cur (13 :: 10 :: r) = _;rw [chopGo_end];simp
 | cons c t ih =>
  intro cur r;have hc:=h c (by simp);show chopGo cur (c :: (crlf t ++ r)) = _
  rw [chopGo_plain _ _ _ hc.1 hc.2,ih (fun x hx => h x (by simp [hx]))];simp
theorem chopGo_lines : ∀ (ls : List (List UInt8)),(∀ l ∈ ls,Clean l) -> ∀ r,chopGo [] (ls.flatMap crlf ++ r) = (chopGo [] r).map (ls ++ ·)
 | [],_,r => by simp
 | l :: ls,h,r => by
  rw [xh,xe,chopGo_clean l (h l (by simp)),chopGo_lines ls (fun x hx => h x (by simp [hx]))];simp [Option.map_map,Function.comp_def]
theorem chopGo_some : ∀ (n : Nat) (t cur : List UInt8) (ls : List (List UInt8)),t.length <= n -> chopGo cur t = some ls -> Clean cur ->
  (ls = [] /\ t = [] /\ cur = []) ∨ ∃ l rest,ls = (cur ++ l) :: rest /\ Clean (cur ++ l) /\ (∀ x ∈ rest,Clean x) /\ t = crlf l ++ rest.flatMap crlf
 | _,[],cur,ls,_,h,_ => by
  rw [chopGo_nil] at h;split at h
  ·rename_i hc
   exact .inl ⟨by simpa using h.symm,rfl,hc⟩
  ·cases h
 | 0,_ :: _,_,_,hn,_,_ => by simp at hn
 | n + 1,c :: r,cur,ls,hn,h,hcl => by
  simp only [xc] at hn;by_cases h10 : c = 10
  ·subst h10;rw [chopGo_feed] at h;cases h
  ·by_cases h13 : c = 13
   ·subst h13;cases r with
    | nil => rw [chopGo_cut] at h;cases h
    | cons d r' =>
     by_cases hd : d = 10
     ·subst hd;rw [chopGo_end] at h;obtain ⟨y,hy,rfl⟩:=Option.map_eq_some_iff.1 h;simp only [xc] at hn;rcases chopGo_some n r' [] y (by omega) hy (by simp [Clean]) with ⟨rfl,rfl,_⟩ | ⟨l,rest,rfl,k1,k2,rfl⟩
      ·exact .inr ⟨[],[],by simp,by simpa using hcl,by simp,by simp [crlf]⟩
      ·refine .inr ⟨[],l :: rest,by simp,by simpa using hcl,?_,by simp [crlf]⟩;intro x hx;rcases xf.1 hx with rfl | hx
       ·simpa using k1
       ·exact k2 x hx
     ·rw [chopGo_lone _ _ _ hd] at h;cases h
   ·have hcl' : Clean (cur ++ [c]):=by
     intro x hx;rcases List.mem_append.1 hx with hx | hx
     ·exact hcl x hx
     ·simp at hx;subst hx;exact ⟨h13,h10⟩
    rw [chopGo_plain _ _ _ h13 h10] at h;rcases chopGo_some n r (cur ++ [c]) ls (by omega) h hcl' with ⟨_,_,e⟩ | ⟨l,rest,rfl,k1,k2,rfl⟩
    ·simp at e
    ·exact .inr ⟨c :: l,rest,by simp,by simpa using k1,k2,by simp [crlf]⟩
theorem chop_iff (t : List UInt8) (ls : List (List UInt8)) : chopGo [] t = some ls ↔ (∀ l ∈ ls,Clean l) /\ t = ls.flatMap crlf:=by
 constructor
 ·intro h;rcases chopGo_some t.length t [] ls (xb _) h (by simp [Clean]) with ⟨rfl,rfl,_⟩ | ⟨l,rest,rfl,k1,k2,rfl⟩
  ·simp
  ·refine ⟨?_,by simp⟩;intro x hx;rcases xf.1 hx with rfl | hx
   ·exact k1
   ·exact k2 x hx
 ·rintro ⟨h,rfl⟩;have:=chopGo_lines ls h [];simpa [chopGo_nil] using this
/-! ### Split at the ends -/
open Go.Lib
theorem occ_clean (l r : List UInt8) (h : Clean l) (j : Nat) (hj : j < l.length) : occAt (l ++ r) [13,10] j = false:=by
 unfold occAt;rw [List.drop_append_of_le_length (by omega)];cases e : l.drop j with
 | nil => simp at e;omega
 | cons c t =>
  have hc : c ∈ l:=List.mem_of_mem_drop (i:=j) (by rw [e];simp);have:=(h c hc).1;simp [List.isPrefixOf];intro e;exact absurd e.symm this
theorem index_clean (l r : List UInt8) (h : Clean l) : index (crlf l ++ r) [13,10] = l.length:=by
 refine index_first (by simp [crlf]) ?_ ?_
 ·unfold occAt crlf;simp
 ·intro j hj;have:=occ_clean l ([13,10] ++ r) h j hj;simpa [crlf] using this
theorem index_alone (l : List UInt8) (h : Clean l) : index l [13,10] = -1:=by
 refine index_none ?_;intro j hj;by_cases e : j < l.length
 ·have:=occ_clean l [] h j e;simpa using this
 ·have : j = l.length:=by omega
  subst this;simp [occAt]
def between : List (List UInt8) -> List UInt8
 | [] => []
 | [l] => l
 | l :: r => crlf l ++ between r
theorem between_cons (l m : List UInt8) (r : List (List UInt8)) : between (l :: m :: r) = crlf l ++ between (m :: r):=rfl
theorem between_crlf : ∀ (ls : List (List UInt8)),ls ≠ [] -> between ls ++ [13,10] = ls.flatMap crlf
 | [],h => absurd rfl h
 | [l],_ => by simp [between,crlf]
 | l :: m :: r,_ => by rw [between_cons,xe,between_crlf (m :: r) (by simp)];simp
theorem split_between : ∀ (ls : List (List UInt8)),ls ≠ [] -> (∀ l ∈ ls,Clean l) -> split (between ls) [13,10] = ls
 | [],h,_ => absurd rfl h
 | [l],_,hc => by
  have hi:=index_alone l (hc l (by simp));unfold split between;rw [count_miss hi];rfl
 | l :: m :: r,_,hc => by
  have hi:=index_clean l (between (m :: r)) (hc l (by simp));have ih:=split_between (m :: r) (by simp) (fun x hx => hc x (by simp [hx]));rw [between_cons];unfold split;have hd : (crlf l ++ between (m :: r)).drop (l.length + 2) = between (m :: r):=by
   rw [List.drop_append_of_le_length (by simp [crlf])];simp [crlf]
  rw [count_hit (by simp) hi,show [(13 : UInt8),10].length = 2 from rfl,hd,Nat.add_comm 1,splitK,if_neg (by rw [hi];simp),hi];unfold split at ih;rw [show [(13 : UInt8),10].length = 2 from rfl,Int.toNat_natCast,hd,ih];simp [crlf]
theorem split_joins : ∀ (k : Nat) (s : List UInt8),s.length <= k -> between (split s [13,10]) = s /\ split s [13,10] ≠ []
 | k,s,hk => by
  rcases index_spec s [13,10] with ⟨hi,_⟩ | ⟨i,hi,hle,hocc,_⟩
  ·unfold split;rw [count_miss hi];exact ⟨rfl,by simp [splitK]⟩
  ·have hroom : i + 2 <= s.length:=by
    rcases occAt_room hocc with h | h
    ·simpa using h
    ·simp at h
   cases k with
   | zero => omega
   | succ k =>
    have ih:=split_joins k (s.drop (i + 2)) (by simp;omega);have htake : (s.drop i).take 2 = [13,10]:=by
     have:=occAt_iff_take s [13,10] i (by simpa using hroom);rw [hocc] at this;simpa using this.symm
    have he : split s [13,10] = s.take i :: split (s.drop (i + 2)) [13,10]:=by
     unfold split;rw [count_hit (by simp) hi,Nat.add_comm 1,splitK,if_neg (by rw [hi];simp),hi];simp
    rw [he];refine ⟨?_,by simp⟩;obtain ⟨m,r,e⟩ : ∃ m r,split (s.drop (i + 2)) [13,10] = m :: r:=by
     cases h : split (s.drop (i + 2)) [13,10] with
     | nil => exact absurd h ih.2
     | cons m r => exact ⟨m,r,rfl⟩
    have ih1:=ih.1;rw [e] at ih1 ⊢;rw [between_cons,ih1,crlf,<- htake,xe];have : s.drop (i + 2) = (s.drop i).drop 2:=by rw [List.drop_drop]
    rw [this,xg,xg]
theorem unf_split (text t : List UInt8) (h : text = t ++ [13,10]) : unf text = if (∀ l ∈ split t [13,10],Clean l) then joinL [] (split t [13,10]) else none:=by
 have hne : text ≠ []:=by subst h;simp
 have hj:=split_joins t.length t (xb _);have ht : text = (split t [13,10]).flatMap crlf:=by rw [<- between_crlf _ hj.2,hj.1,h]
 unfold unf;rw [if_neg hne];by_cases hc : ∀ l ∈ split t [13,10],Clean l
 ·rw [if_pos hc,(chop_iff text _).2 ⟨hc,ht⟩];rfl
 ·rw [if_neg hc];cases hch : chopGo [] text with
  | none => rfl
  | some ls =>
   obtain ⟨k1,k2⟩:=(chop_iff text ls).1 hch;have hls : ls ≠ []:=by
    intro e;subst e;simp at k2;exact hne k2
   have hb : between ls = t:=by
    have e1 : between ls ++ [13,10] = t ++ [13,10]:=by rw [between_crlf ls hls,<- k2,h]
    exact List.append_cancel_right e1
   exact absurd (by rw [<- hb,split_between ls hls k1];exact k1) hc
theorem unf_no_end (text : List UInt8) (h : hasSuffix text [13,10] = false) : unf text = none:=by
 unfold unf;split
 ·rfl
 ·rename_i hne
  cases hch : chopGo [] text with
  | none => rfl
  | some ls =>
   obtain ⟨k1,k2⟩:=(chop_iff text ls).1 hch;have hls : ls ≠ []:=by
    intro e;subst e;simp at k2;exact hne k2
   rw [<- between_crlf ls hls] at k2;rw [k2] at h;have : hasSuffix (between ls ++ [13,10]) [13,10] = true:=by unfold hasSuffix;rw [List.isSuffixOf_iff_suffix];exact List.suffix_append _ _
   rw [this] at h;cases h
/-! ### Folding -/
def chunk : Nat -> Nat -> List UInt8 -> List (List UInt8)
 | 0,_,l => [l]
 | f + 1,n,l => if n < l.length then l.take n :: chunk f 74 (l.drop n) else [l]
def foldGo : Nat -> Nat -> List UInt8 -> List UInt8
 | 0,_,l => l ++ [13,10]
 | f + 1,n,l => if n < l.length then l.take n ++ [13,10,32] ++ foldGo f 74 (l.drop n) else l ++ [13,10]
def fold (l : List UInt8) : List UInt8:=foldGo l.length 75 l
theorem foldGo_fuel : ∀ (f g n : Nat) (l : List UInt8),1 <= n -> l.length <= f -> l.length <= g -> foldGo f n l = foldGo g n l
 | 0,0,_,_,_,_,_ => rfl
 | 0,g + 1,n,l,_,hf,_ => by rw [foldGo,foldGo,if_neg (by omega)]
 | f + 1,0,n,l,_,_,hg => by rw [foldGo,foldGo,if_neg (by omega)]
 | f + 1,g + 1,n,l,hn,hf,hg => by
  rw [foldGo,foldGo];split
  ·rw [foldGo_fuel f g 74 (l.drop n) (by omega) (by simp;omega) (by simp;omega)]
  ·rfl
theorem foldGo_step (f n : Nat) (l : List UInt8) (hn : 1 <= n) (hf : l.length <= f) (h : n < l.length) : foldGo f n l = l.take n ++ [13,10,32] ++ foldGo (l.drop n).length 74 (l.drop n):=by
 cases f with
 | zero => omega
 | succ f =>
  rw [foldGo,if_pos h];rw [foldGo_fuel f (l.drop n).length 74 _ (by omega) (by simp;omega) (xb _)]
theorem foldGo_end (f n : Nat) (l : List UInt8) (h : ¬ n < l.length) : foldGo f n l = l ++ [13,10]:=by
 cases f with
 | zero => rfl
 | succ f => rw [foldGo,if_neg h]
def linesOf : List (List UInt8) -> List (List UInt8)
 | [] => []
 | c :: cs => c :: cs.map (32 :: ·)
theorem chunk_ne (f n : Nat) (l : List UInt8) : ∃ c cs,chunk f n l = c :: cs:=by
 cases f with
 | zero => exact ⟨_,_,rfl⟩
 | succ f => rw [chunk];split <;> exact ⟨_,_,rfl⟩
theorem foldGo_chunk : ∀ (f n : Nat) (l : List UInt8),foldGo f n l = (linesOf (chunk f n l)).flatMap crlf
 | 0,n,l => by simp [foldGo,chunk,linesOf,crlf]
 | f + 1,n,l => by
  rw [foldGo,chunk];split
  ·obtain ⟨c,cs,e⟩:=chunk_ne f 74 (l.drop n);rw [foldGo_chunk f 74,e];simp [linesOf,crlf]
  ·simp [linesOf,crlf]
theorem chunk_flatten : ∀ (f n : Nat) (l : List UInt8),(chunk f n l).flatten = l
 | 0,n,l => by simp [chunk]
 | f + 1,n,l => by
  rw [chunk];split
  ·rw [xk,chunk_flatten f 74,xg]
  ·simp
theorem chunk_clean : ∀ (f n : Nat) (l : List UInt8),Clean l -> ∀ c ∈ chunk f n l,Clean c
 | 0,n,l,h,c,hc => by simp [chunk] at hc;subst hc;exact h
 | f + 1,n,l,h,c,hc => by
  rw [chunk] at hc;split at hc
  ·rcases xf.1 hc with rfl | hc
   ·intro x hx;exact h x (List.mem_of_mem_take hx)
   ·exact chunk_clean f 74 (l.drop n) (fun x hx => h x (List.mem_of_mem_drop hx)) c hc
  ·simp at hc;subst hc;exact h
theorem linesOf_clean (cs : List (List UInt8)) (h : ∀ c ∈ cs,Clean c) : ∀ c ∈ linesOf cs,Clean c:=by
 cases cs with
 | nil => simp [linesOf]
 | cons a t =>
  intro c hc;rcases xf.1 hc with rfl | hc
  ·exact h c (by simp)
  ·obtain ⟨x,hx,rfl⟩:=List.mem_map.1 hc;intro y hy;rcases xf.1 hy with rfl | hy
   ·decide
   ·exact h x (by simp [hx]) y hy
theorem joinL_more : ∀ (cs : List (List UInt8)) (out : List (List UInt8)) (l : List UInt8) (r : List (List UInt8)),
  joinL (out ++ [l]) (cs.map (32 :: ·) ++ r) = joinL (out ++ [l ++ cs.flatten]) r
 | [],out,l,r => by simp
 | c :: cs,out,l,r => by
  show joinL (out ++ [l]) ((32 :: c) :: (cs.map (32 :: ·) ++ r)) = _
  rw [joinL,if_pos (by simp [begins]),if_neg (by simp)];have e : (out ++ [l]).dropLast ++ [(out ++ [l]).getLastD [] ++ (32 :: c).tail] = out ++ [l ++ c]:=by simp
  rw [e,joinL_more cs out (l ++ c) r];simp
theorem joinL_fold (out : List (List UInt8)) (f n : Nat) (l : List UInt8) (r : List (List UInt8)) (hb : begins l = false) (hn : 1 <= n) :
  joinL out (linesOf (chunk f n l) ++ r) = joinL (out ++ [l]) r:=by
 obtain ⟨c,cs,e⟩:=chunk_ne f n l;have hfl:=chunk_flatten f n l;rw [e] at hfl ⊢;have hc : begins c = false:=by
  cases f with
  | zero =>
   simp [chunk] at e;rw [<- e.1];exact hb
  | succ f =>
   rw [chunk] at e;split at e
   ·simp only [List.cons.injEq] at e;rw [<- e.1];cases l with
    | nil => simp [begins]
    | cons a t =>
     cases n with
     | zero => omega
     | succ n => simpa [begins] using hb
   ·simp only [List.cons.injEq] at e;rw [<- e.1];exact hb
 show joinL out (c :: (cs.map (32 :: ·) ++ r)) = _
 rw [joinL,if_neg (by rw [hc];simp),joinL_more];simp only [xk] at hfl;rw [hfl]
theorem joinL_folds : ∀ (ls out : List (List UInt8)),(∀ l ∈ ls,begins l = false) -> joinL out (ls.flatMap fun l => linesOf (chunk l.length 75 l)) = some (out ++ ls)
 | [],out,_ => by simp [joinL]
 | l :: ls,out,h => by
  rw [xh,joinL_fold _ _ _ _ _ (h l (by simp)) (by omega),joinL_folds ls _ (fun x hx => h x (by simp [hx]))];simp
theorem unf_folds (ls : List (List UInt8)) (hne : ls ≠ []) (hc : ∀ l ∈ ls,Clean l) (hb : ∀ l ∈ ls,begins l = false) : unf (ls.flatMap fold) = some ls:=by
 have e : ls.flatMap fold = (ls.flatMap fun l => linesOf (chunk l.length 75 l)).flatMap crlf:=by
  rw [List.flatMap_assoc];congr 1
  funext l
  exact foldGo_chunk l.length 75 l
 have hne' : ls.flatMap fold ≠ []:=by
  cases ls with
  | nil => exact absurd rfl hne
  | cons l r =>
   obtain ⟨c,cs,ec⟩:=chunk_ne l.length 75 l;rw [e,xh,ec];simp [linesOf,crlf]
 unfold unf;rw [if_neg hne',(chop_iff _ (ls.flatMap fun l => linesOf (chunk l.length 75 l))).2 ⟨?_,e⟩]
 ·show joinL [] _ = _
  rw [joinL_folds ls [] hb];simp
 ·intro x hx;obtain ⟨l,hl,hx⟩:=List.mem_flatMap.1 hx;exact linesOf_clean _ (chunk_clean _ _ _ (hc l hl)) x hx
theorem fold_length (l : List UInt8) : (fold l).length <= 5 * l.length + 2:=by
 have : ∀ (f n : Nat) (l : List UInt8),1 <= n -> l.length <= f -> (foldGo f n l).length <= 4 * l.length + 2:=by
  intro f;induction f with
  | zero => intro n l hn hl;simp [foldGo];omega
  | succ f ih =>
   intro n l hn hl;rw [foldGo];split
   ·have:=ih 74 (l.drop n) (by omega) (by simp;omega);simp only [xj,List.length_take,List.length_drop,xc,List.length_nil] at this ⊢;omega
   ·simp;omega
 have:=this l.length 75 l (by omega) (xb _);unfold fold;omega
end Tt
-- Esc
namespace Go.Proofs.YtcomifbfldoeiaaGreatDoor
open Go.RowKit
theorem bytes_of (s : ByteArray) (w : World) : ∃ cap W',(convert 9 145 (.string s)).run Tryz.prog w = .ok (.slice (some ⟨w.heap.size,0,none⟩) s.size cap) W' /\ Below w.heap.size w W' /\ w.heap.size + 1 <= W'.heap.size /\
  ∀ j c,s.data.toList[j]? = some c -> W'.cell? ⟨w.heap.size,j,none⟩ = some (.int .u8 (c.toNat : Int)):=by
 refine ⟨_,_,run_bytes_of_string w 9 145 5 s Tryz.underlying9 Tryz.underlying145 Tryz.underlying5,⟨rfl,rfl,rfl,by simp,fun k hk => ?_⟩,by simp,fun j c hj => ?_⟩
 ·exact Below.heap_alloc w.drew _ k hk
 ·have hnew : ∀ (w : World) (o : Obj),(w.alloc o).heap[w.heap.size]? = some o:=fun w o => heap_alloc_new w o
  have h2:=hnew w.drew (.cells (bytesRow s (grownCap w s.size 0 5)) 5 ((bytesRow s (grownCap w s.size 0 5)).size,(bytesRow s (grownCap w s.size 0 5)).size + 1));have h3 : w.drew.heap.size = w.heap.size:=rfl;rw [h3] at h2;rw [World.cell?];simp only [h2];have hj' : j < s.data.size:=by have:=(xd.1 hj).1;simpa using this
  have : s.data[j]? = some c:=by rw [<- Array.getElem?_toList];exact hj
  have hj2 : j < s.size:=hj';have h4:=(xa.1 this).2;simp [bytesRow,Array.getElem?_append,hj2];rw [h4]
theorem ret_str {a b : List UInt8} (h : a = b) : Ending.returned (.string ⟨a.toArray⟩) = .returned (.string ⟨b.toArray⟩):=by rw [h]
theorem esc_snoc (l : List UInt8) (k : Nat) (c : UInt8) (h : l[k]? = some c) : Tt.esc (l.take (k + 1)) = Tt.esc (l.take k) ++ Tt.escB c:=by
 obtain ⟨h1,h2⟩:=xd.1 h;rw [List.take_succ_eq_append_getElem h1,h2];simp [Tt.esc]
theorem escape_any (s : ByteArray) (w : World) (hs : s.size <= 70368744177664) :
  Calls Tryz.prog 75 #[.string s] w fun e w' => e = .returned (.string ⟨(Tt.esc s.data.toList).toArray⟩) /\ Below w.heap.size w w':=by
 obtain ⟨cap,W,hconv,hb0,hsz,hcell⟩:=bytes_of s (w.alloc (.cells #[.pointer none,.slice none 0 0] 149));have hsa : (w.alloc (.cells #[.pointer none,.slice none 0 0] 149)).heap.size = w.heap.size + 1:=by simp
 rw [hsa] at hb0 hsz hcell;have hconv' : (convert 9 145 (.string s)).run Tryz.prog (w.alloc (.cells #[.pointer none,.slice none 0 0] 149)) = .ok (.slice (some ⟨w.heap.size + 1,0,none⟩) s.size cap) W:=by rw [hconv,hsa]
 clear hconv hsa;have hbl : Bld w.heap.size (w.heap.size + 2) [] W:=(Bld.fresh w (w.heap.size + 2) (by omega)).kept (by simpa using hb0);have HW : Hid (Below w.heap.size w W):=by
  exact ((Below.refl _ w).alloc (xb _) _).trans (hb0.mono (by omega))
 have hlen : s.size = s.data.toList.length:=Lib.size_eq s;have HL:=Lh hlen;clear hlen hb0;go_enter Tryz.func75,Tryz.ntmps75;go_wp2_with fail;clear hconv';go_loopw [9] (fun i wr => ∃ k : Nat,k <= s.size /\ i = .int .i64 k /\ Bld w.heap.size (w.heap.size + 2) (Tt.esc (s.data.toList.take k)) wr /\ But w.heap.size (w.heap.size + 2) W wr) (fun i _ => s.size - (intOf i).toNat)
 case atStart => exact ⟨0,xi _,rfl,hbl,But.refl _ _ _⟩
 case round =>
  obtain ⟨k,hk,rfl,hB,hbut⟩:=hrel;by_cases hlt : k < s.size
  ·obtain ⟨c,hc⟩ : ∃ c,s.data.toList[k]? = some c:=⟨_,List.getElem?_eq_getElem (by rw [<- HL.out];exact hlt)⟩
   have hcc : wr.cell? ⟨w.heap.size + 1,k,none⟩ = some (.int .u8 (c.toNat : Int)):=(hbut.cell (p:=⟨w.heap.size + 1,k,none⟩) (by simp) (by simp)).trans (hcell k c hc);have hll:=Tt.esc_length (s.data.toList.take k);have htk : (s.data.toList.take k).length <= k:=List.length_take_le _ _;have hsz2:=hbut.size;have HC:=Lh hc;have HS:=Lh (esc_snoc s.data.toList k c hc);clear hc;obtain ⟨n,hn⟩ : ∃ n : Int,n = c.toNat:=⟨_,rfl⟩
   rw [<- hn] at hcc;have hdec : ∀ m : Nat,m < 256 -> (n == (m : Int)) = decide (c = m.toUInt8):=by
    intro m hm;rw [Bool.eq_iff_iff,beq_iff_eq,decide_eq_true_iff,hn];constructor
    ·intro e;apply UInt8.toNat_inj.1;simp;omega
    ·intro e;have : c.toNat = (m.toUInt8).toNat:=by rw [e]
     simp at this;omega
   have e92:=hdec 92 (by omega);have e59:=hdec 59 (by omega);have e44:=hdec 44 (by omega);have e10:=hdec 10 (by omega);clear hdec;have HN:=Lh hn;clear hn;simp only [show (Nat.toUInt8 92 : UInt8) = 92 from rfl,show (Nat.toUInt8 59 : UInt8) = 59 from rfl,show (Nat.toUInt8 44 : UInt8) = 44 from rfl,show (Nat.toUInt8 10 : UInt8) = 10 from rfl] at e92 e59 e44 e10;by_cases h1 : c = 92 ∨ c = 59 ∨ c = 44
   ·have hes : Tt.escB c = [92] ++ [c]:=by unfold Tt.escB;rw [if_pos h1];rfl
    have HE:=Lh hes;clear hes;have h3 : (n == (92 : Int)) = true ∨ ((n == (92 : Int)) = false /\ (n == (59 : Int)) = true) ∨ ((n == (92 : Int)) = false /\ (n == (59 : Int)) = false /\ (n == (44 : Int)) = true):=by
     rw [show ((92 : Nat) : Int) = 92 from rfl] at e92;rw [show ((59 : Nat) : Int) = 59 from rfl] at e59;rw [show ((44 : Nat) : Int) = 44 from rfl] at e44;rw [e92,e59,e44];by_cases a1 : c = 92
     ·simp [a1]
     ·by_cases a2 : c = 59
      ·simp [a2]
      ·have a3 : c = 44:=by rcases h1 with h | h | h <;> simp_all
       simp [a3]
    clear e92 e59 e44 e10 h1;rcases h3 with h3 | ⟨h3,h4⟩ | ⟨h3,h4,h5⟩
    all_goals
     go_wp2_with fail;refine (writeByte_any _ _ _ _ 92 rfl _ hB (by omega) (by omega)).mono ?_;rintro e w1 ⟨rfl,hB1,hbut1⟩;have hsz3:=hbut1.size;go_wp2_with fail;refine (writeByte_any _ _ _ _ c HN.out _ hB1 (by simp;omega) (by omega)).mono ?_;rintro e w2 ⟨rfl,hB2,hbut2⟩;go_wp2_with fail;go_roundw
     case rel => exact ⟨k + 1,by omega,by go_num,by rw [HS.out,HE.out,<- xe];exact hB2,(hbut.trans hbut1).trans hbut2⟩
     case measure => simp [intOf];omega
   ·have f92 : (n == (92 : Int)) = false:=by
     refine e92.trans (decide_eq_false fun h => h1 (.inl h))
    have f59 : (n == (59 : Int)) = false:=by
     refine e59.trans (decide_eq_false fun h => h1 (.inr (.inl h)))
    have f44 : (n == (44 : Int)) = false:=by
     refine e44.trans (decide_eq_false fun h => h1 (.inr (.inr h)))
    by_cases h2 : c = 10
    ·have f10 : (n == (10 : Int)) = true:=by
      refine e10.trans (decide_eq_true h2)
     have HE:=Lh (show Tt.escB c = [92,110] by unfold Tt.escB;rw [if_neg h1,if_pos h2]);clear e92 e59 e44 e10 h1 h2;go_wp2_with fail;refine (writeString_any _ _ _ _ _ hB (by simp [ByteArray.size];omega) (by omega)).mono ?_;rintro e w1 ⟨rfl,hB1,hbut1⟩;go_wp2_with fail;go_roundw
     case rel => exact ⟨k + 1,by omega,by go_num,by rw [HS.out,HE.out];exact hB1,hbut.trans hbut1⟩
     case measure => simp [intOf];omega
    ·have f10 : (n == (10 : Int)) = false:=by
      refine e10.trans (decide_eq_false h2)
     have HE:=Lh (show Tt.escB c = [c] by unfold Tt.escB;rw [if_neg h1,if_neg h2]);clear e92 e59 e44 e10 h1 h2;go_wp2_with fail;refine (writeByte_any _ _ _ _ c HN.out _ hB (by omega) (by omega)).mono ?_;rintro e w1 ⟨rfl,hB1,hbut1⟩;go_wp2_with fail;go_roundw
     case rel => exact ⟨k + 1,by omega,by go_num,by rw [HS.out,HE.out];exact hB1,hbut.trans hbut1⟩
     case measure => simp [intOf];omega
  ·go_wp2_with fail;refine (string_any _ _ _ _ hB).mono ?_;rintro e w1 ⟨rfl,hb1⟩;go_wp2_with fail;go_ret;exact ⟨ret_str (by rw [List.take_of_length_le (by rw [<- HL.out];omega)]),HW.out.trans ((hbut.below (xb _) (by omega)).trans hb1)⟩
end Go.Proofs.YtcomifbfldoeiaaGreatDoor
-- Unesc
namespace Go.Proofs.YtcomifbfldoeiaaGreatDoor
open Go.RowKit
theorem byte_eq (c : UInt8) (m : Int) (u : UInt8) (hu : (u.toNat : Int) = m) (h : c = u) : ((c.toNat : Int) == m) = true:=by rw [h,hu];exact beq_self_eq_true _
theorem byte_ne (c : UInt8) (m : Int) (u : UInt8) (hu : (u.toNat : Int) = m) (h : ¬ c = u) : ((c.toNat : Int) == m) = false:=by
 rw [beq_eq_false_iff_ne];intro e;exact h (UInt8.toNat_inj.1 (by omega))
def unescS (l : List UInt8) : ByteArray:=⟨((Tt.unesc l).getD []).toArray⟩
def unescB (l : List UInt8) : Bool:=(Tt.unesc l).isSome
theorem drop_cons (l : List UInt8) (k : Nat) (c : UInt8) (h : l[k]? = some c) : l.drop k = c :: l.drop (k + 1):=by
 obtain ⟨h1,h2⟩:=xd.1 h;rw [List.drop_eq_getElem_cons h1,h2]
theorem unesc_fails {l acc : List UInt8} {k : Nat} (h : (Tt.unesc (l.drop k)).map (acc ++ ·) = Tt.unesc l) (hn : Tt.unesc (l.drop k) = none) : unescS l = ⟨#[]⟩ /\ unescB l = false:=by
 rw [hn] at h;unfold unescS unescB;rw [<- h];exact ⟨rfl,rfl⟩
theorem unesc_step {l acc x : List UInt8} {k j : Nat} (h : (Tt.unesc (l.drop k)).map (acc ++ ·) = Tt.unesc l) (hn : Tt.unesc (l.drop k) = (Tt.unesc (l.drop j)).map (x ++ ·)) : (Tt.unesc (l.drop j)).map ((acc ++ x) ++ ·) = Tt.unesc l:=by
 rw [<- h,hn,Option.map_map];congr 1;funext y;simp
theorem ret_two {a a' : ByteArray} {b b' : Bool} (h : a = a') (h2 : b = b') : Ending.returned (.tuple #[.string a,.bool b]) = .returned (.tuple #[.string a',.bool b']):=by rw [h,h2]
theorem unescape_any (s : ByteArray) (w : World) (hs : s.size <= 70368744177664) :
  Calls Tryz.prog 240 #[.string s] w fun e w' => e = .returned (.tuple #[.string (unescS s.data.toList),.bool (unescB s.data.toList)]) /\ Below w.heap.size w w':=by
 have HL:=Lh (Lib.size_eq s);have hbl : Bld w.heap.size (w.heap.size + 1) [] (w.alloc (.cells #[.pointer none,.slice none 0 0] 149)):=Bld.fresh w (w.heap.size + 1) (by omega);have hW : Below w.heap.size w (w.alloc (.cells #[.pointer none,.slice none 0 0] 149)):=(Below.refl _ w).alloc (xb _) _;have hS : w.heap.size + 1 <= (w.alloc (.cells #[.pointer none,.slice none 0 0] 149)).heap.size:=by simp
 go_enter Tryz.func240,Tryz.ntmps240;go_wp2_with fail;go_loopw [5] (fun i wr => ∃ (k : Nat) (acc : List UInt8),k <= s.size /\ i = .int .i64 k /\ acc.length <= k /\ Bld w.heap.size (w.heap.size + 1) acc wr /\ Below w.heap.size w wr /\ w.heap.size + 1 <= wr.heap.size /\ Hid ((Tt.unesc (s.data.toList.drop k)).map (acc ++ ·) = Tt.unesc s.data.toList)) (fun i _ => s.size - (intOf i).toNat)
 case atStart => exact ⟨0,[],xi _,rfl,by simp,hbl,hW,hS,by show _ = _;simp⟩
 case round =>
  obtain ⟨k,acc,hk,rfl,hac,hB,hbw,hsz,HU⟩:=hrel;clear hbl hW hS;by_cases hlt : k < s.size
  ·obtain ⟨c,hx⟩ : ∃ c : UInt8,s[k]'hlt = c:=⟨_,rfl⟩
   have hcl : s.data.toList[k]? = some c:=by rw [<- hx];exact Lib.data_getElem? s k hlt
   have HD:=Lh (drop_cons _ _ _ hcl);clear hcl;by_cases h1 : c = 59 ∨ c = 44 ∨ c = 10
   ·have HF:=Lh (unesc_fails HU.out (by rw [HD.out,Tt.unesc_bad c _ h1]));have h3 : ((c.toNat : Int) == 59) = true ∨ (((c.toNat : Int) == 59) = false /\ ((c.toNat : Int) == 44) = true) ∨ (((c.toNat : Int) == 59) = false /\ ((c.toNat : Int) == 44) = false /\ ((c.toNat : Int) == 10) = true):=by
     by_cases a1 : c = 59
     ·exact .inl (byte_eq c 59 59 rfl a1)
     ·by_cases a2 : c = 44
      ·exact .inr (.inl ⟨byte_ne c 59 59 rfl a1,byte_eq c 44 44 rfl a2⟩)
      ·exact .inr (.inr ⟨byte_ne c 59 59 rfl a1,byte_ne c 44 44 rfl a2,byte_eq c 10 10 rfl (by rcases h1 with h | h | h <;> first | exact absurd h a1 | exact absurd h a2 | exact h)⟩)
    clear h1;rcases h3 with h3 | ⟨h3,h4⟩ | ⟨h3,h4,h5⟩
    all_goals
     go_wp2_with fail;go_ret2;exact ⟨ret_two HF.out.1.symm HF.out.2.symm,hbw⟩
   ·have f59:=byte_ne c 59 59 rfl (fun h => h1 (.inl h));have f44:=byte_ne c 44 44 rfl (fun h => h1 (.inr (.inl h)));have f10:=byte_ne c 10 10 rfl (fun h => h1 (.inr (.inr h)));by_cases h2 : c = 92
    ·have f92:=byte_eq c 92 92 rfl h2;by_cases hend : k + 1 = s.size
     ·have HF:=Lh (unesc_fails HU.out (by rw [HD.out,List.drop_eq_nil_of_le (by rw [<- HL.out];omega),h2,Tt.unesc_end]));have hq : (((k : Int) + 1) == (s.size : Int)) = true:=beq_iff_eq.2 (by omega);clear h1 h2 hend;go_wp2_with fail;go_ret2;exact ⟨ret_two HF.out.1.symm HF.out.2.symm,hbw⟩
     ·have hq : (((k : Int) + 1) == (s.size : Int)) = false:=beq_eq_false_iff_ne.2 (by omega);have hlt2 : k + 1 < s.size:=by omega
      obtain ⟨d,hy⟩ : ∃ d : UInt8,s[k + 1]'hlt2 = d:=⟨_,rfl⟩
      have hdl : s.data.toList[k + 1]? = some d:=by rw [<- hy];exact Lib.data_getElem? s (k + 1) hlt2
      have HD2:=Lh (drop_cons _ _ _ hdl);have H92:=Lh h2;clear hdl h1 h2 hend;by_cases h5 : d = 92 ∨ d = 59 ∨ d = 44
      ·have HF:=Lh (unesc_step (x:=[d]) (j:=k + 1 + 1) HU.out (by rw [HD.out,HD2.out,H92.out,Tt.unesc_same d _ h5];rfl));have h3 : ((d.toNat : Int) == 92) = true ∨ (((d.toNat : Int) == 92) = false /\ ((d.toNat : Int) == 59) = true) ∨ (((d.toNat : Int) == 92) = false /\ ((d.toNat : Int) == 59) = false /\ ((d.toNat : Int) == 44) = true):=by
        by_cases a1 : d = 92
        ·exact .inl (byte_eq d 92 92 rfl a1)
        ·by_cases a2 : d = 59
         ·exact .inr (.inl ⟨byte_ne d 92 92 rfl a1,byte_eq d 59 59 rfl a2⟩)
         ·exact .inr (.inr ⟨byte_ne d 92 92 rfl a1,byte_ne d 59 59 rfl a2,byte_eq d 44 44 rfl (by rcases h5 with h | h | h <;> first | exact absurd h a1 | exact absurd h a2 | exact h)⟩)
       clear h5;rcases h3 with h3 | ⟨h3,h4⟩ | ⟨h3,h4,h5⟩
       all_goals
        go_wp2_with fail;refine (writeByte_any _ _ _ _ d rfl _ hB (by omega) (by omega)).mono ?_;rintro e w1 ⟨rfl,hB1,hbut1⟩;have hsz3:=hbut1.size;go_wp2_with fail;go_roundw
        case rel => exact ⟨k + 1 + 1,acc ++ [d],by omega,by go_num,by simp;omega,hB1,hbw.trans (hbut1.below (xb _) (by omega)),by omega,HF⟩
        case measure => simp [intOf];omega
      ·by_cases h6 : d = 110 ∨ d = 78
       ·have HF:=Lh (unesc_step (x:=[10]) (j:=k + 1 + 1) HU.out (by rw [HD.out,HD2.out,H92.out,Tt.unesc_feed d _ h6];rfl));have g92:=byte_ne d 92 92 rfl (fun h => h5 (.inl h));have g59:=byte_ne d 59 59 rfl (fun h => h5 (.inr (.inl h)));have g44:=byte_ne d 44 44 rfl (fun h => h5 (.inr (.inr h)));have h3 : ((d.toNat : Int) == 110) = true ∨ (((d.toNat : Int) == 110) = false /\ ((d.toNat : Int) == 78) = true):=by
         by_cases a1 : d = 110
         ·exact .inl (byte_eq d 110 110 rfl a1)
         ·exact .inr ⟨byte_ne d 110 110 rfl a1,byte_eq d 78 78 rfl (by rcases h6 with h | h <;> first | exact absurd h a1 | exact h)⟩
        clear h5 h6;rcases h3 with h3 | ⟨h3,h4⟩
        all_goals
         go_wp2_with fail;refine (writeByte_any _ _ _ _ 10 rfl _ hB (by omega) (by omega)).mono ?_;rintro e w1 ⟨rfl,hB1,hbut1⟩;have hsz3:=hbut1.size;go_wp2_with fail;go_roundw
         case rel => exact ⟨k + 1 + 1,acc ++ [10],by omega,by go_num,by simp;omega,hB1,hbw.trans (hbut1.below (xb _) (by omega)),by omega,HF⟩
         case measure => simp [intOf];omega
       ·have HF:=Lh (unesc_fails HU.out (by rw [HD.out,HD2.out,H92.out,Tt.unesc_wrong d _ h5 h6]));have g92:=byte_ne d 92 92 rfl (fun h => h5 (.inl h));have g59:=byte_ne d 59 59 rfl (fun h => h5 (.inr (.inl h)));have g44:=byte_ne d 44 44 rfl (fun h => h5 (.inr (.inr h)));have g110:=byte_ne d 110 110 rfl (fun h => h6 (.inl h));have g78:=byte_ne d 78 78 rfl (fun h => h6 (.inr h));clear h5 h6;go_wp2_with fail;go_ret2;exact ⟨ret_two HF.out.1.symm HF.out.2.symm,hbw⟩
    ·have f92:=byte_ne c 92 92 rfl h2;have HF:=Lh (unesc_step (x:=[c]) (j:=k + 1) HU.out (by rw [HD.out,Tt.unesc_plain c _ h1 h2];rfl));clear h1 h2;go_wp2_with fail;refine (writeByte_any _ _ _ _ c rfl _ hB (by omega) (by omega)).mono ?_;rintro e w1 ⟨rfl,hB1,hbut1⟩;have hsz3:=hbut1.size;go_wp2_with fail;go_roundw
     case rel => exact ⟨k + 1,acc ++ [c],by omega,by go_num,by simp;omega,hB1,hbw.trans (hbut1.below (xb _) (by omega)),by omega,HF⟩
     case measure => simp [intOf];omega
  ·go_wp2_with fail;refine (string_any _ _ _ _ hB).mono ?_;rintro e w1 ⟨rfl,hb1⟩;go_wp2_with fail;go_ret2;have hU:=HU.out;rw [List.drop_eq_nil_of_le (by rw [<- HL.out];omega),Tt.unesc_nil] at hU;refine ⟨ret_two ?_ ?_,hbw.trans hb1⟩
   ·unfold unescS;rw [<- hU];simp
   ·unfold unescB;rw [<- hU];rfl
end Go.Proofs.YtcomifbfldoeiaaGreatDoor
-- Codes
namespace Tt
def alnum (c : UInt8) : Bool:=(48 <= c && c <= 57) || (65 <= c && c <= 90) || (97 <= c && c <= 122)
def sign (c : UInt8) : Bool:=c == 95 || c == 45
def codeTail (l : List UInt8) : Bool:=l.all fun c => alnum c || sign c
def code (l : List UInt8) : Bool:=match l with
 | [] => false
 | c :: r => decide (l.length <= 16) && alnum c && codeTail r
end Tt
namespace Go.Proofs.YtcomifbfldoeiaaGreatDoor
open Go.RowKit
def digitB (c : UInt8) : Bool:=48 <= c && c <= 57
def letterB (c : UInt8) : Bool:=(65 <= c && c <= 90) || (97 <= c && c <= 122)
theorem u8_le (c : UInt8) (k : Nat) (hk : k < 256) : decide ((k : Int) <= (c.toNat : Int)) = decide (k.toUInt8 <= c):=by
 have : (k.toUInt8).toNat = k:=by simp;omega
 rw [Bool.eq_iff_iff,decide_eq_true_iff,decide_eq_true_iff,UInt8.le_iff_toNat_le,this];omega
theorem u8_ge (c : UInt8) (k : Nat) (hk : k < 256) : decide ((c.toNat : Int) <= (k : Int)) = decide (c <= k.toUInt8):=by
 have : (k.toUInt8).toNat = k:=by simp;omega
 rw [Bool.eq_iff_iff,decide_eq_true_iff,decide_eq_true_iff,UInt8.le_iff_toNat_le,this];omega
theorem digit_any (n : Int) (c : UInt8) (hn : n = c.toNat) (w : World) : Calls Tryz.prog 98 #[.int .u8 n] w fun e w' => e = .returned (.bool (digitB c)) /\ w' = w:=by
 have h1:=u8_le c 48 (by omega);have h2:=u8_ge c 57 (by omega);rw [<- hn] at h1 h2;have hd : digitB c = (decide ((48 : Int) <= n) && decide (n <= (57 : Int))):=by
  rw [show (48 : Int) = ((48 : Nat) : Int) from rfl,show (57 : Int) = ((57 : Nat) : Int) from rfl,h1,h2];rfl
 have HD:=Lh hd;clear hd h1 h2 hn;by_cases a : (48 : Int) <= n
 ·by_cases b : n <= (57 : Int)
  ·have HE:=Lh (show digitB c = true by rw [HD.out];simp [a,b]);go_enter Tryz.func98,Tryz.ntmps98;go_wp2;go_ret;rw [HE.out];exact ⟨rfl,rfl⟩
  ·have HE:=Lh (show digitB c = false by rw [HD.out];simp;omega);go_enter Tryz.func98,Tryz.ntmps98;go_wp2;go_ret;rw [HE.out];exact ⟨rfl,rfl⟩
 ·have HE:=Lh (show digitB c = false by rw [HD.out];simp;omega);go_enter Tryz.func98,Tryz.ntmps98;go_wp2;go_ret;rw [HE.out];exact ⟨rfl,rfl⟩
theorem letter_any (n : Int) (c : UInt8) (hn : n = c.toNat) (w : World) : Calls Tryz.prog 99 #[.int .u8 n] w fun e w' => e = .returned (.bool (letterB c)) /\ w' = w:=by
 have h1:=u8_le c 65 (by omega);have h2:=u8_ge c 90 (by omega);have h3:=u8_le c 97 (by omega);have h4:=u8_ge c 122 (by omega);rw [<- hn] at h1 h2 h3 h4;have hd : letterB c = ((decide ((65 : Int) <= n) && decide (n <= (90 : Int))) || (decide ((97 : Int) <= n) && decide (n <= (122 : Int)))):=by
  rw [show (65 : Int) = ((65 : Nat) : Int) from rfl,show (90 : Int) = ((90 : Nat) : Int) from rfl,show (97 : Int) = ((97 : Nat) : Int) from rfl,show (122 : Int) = ((122 : Nat) : Int) from rfl,h1,h2,h3,h4];rfl
 have HD:=Lh hd;clear hd h1 h2 h3 h4 hn;have key : (n < 65) ∨ (65 <= n /\ n <= 90) ∨ (90 < n /\ n < 97) ∨ (97 <= n /\ n <= 122) ∨ (122 < n):=by omega
 rcases key with a | ⟨a,b⟩ | ⟨a,b⟩ | ⟨a,b⟩ | a
 ·have HE:=Lh (show letterB c = false by rw [HD.out];simp;omega);go_enter Tryz.func99,Tryz.ntmps99;go_wp2;go_ret;rw [HE.out];exact ⟨rfl,rfl⟩
 ·have HE:=Lh (show letterB c = true by rw [HD.out];simp;omega);go_enter Tryz.func99,Tryz.ntmps99;go_wp2;go_ret;rw [HE.out];exact ⟨rfl,rfl⟩
 ·have HE:=Lh (show letterB c = false by rw [HD.out];simp;omega);have f1 : decide (n <= 90) = false:=decide_eq_false (by omega);go_enter Tryz.func99,Tryz.ntmps99;go_wp2;go_ret;rw [HE.out];exact ⟨rfl,rfl⟩
 ·have HE:=Lh (show letterB c = true by rw [HD.out];simp;omega);go_enter Tryz.func99,Tryz.ntmps99;go_wp2;go_ret;rw [HE.out];exact ⟨rfl,rfl⟩
 ·have HE:=Lh (show letterB c = false by rw [HD.out];simp;omega);have f1 : decide (n <= 90) = false:=decide_eq_false (by omega);have f2 : decide (n <= 122) = false:=decide_eq_false (by omega);go_enter Tryz.func99,Tryz.ntmps99;go_wp2;go_ret;rw [HE.out];exact ⟨rfl,rfl⟩
theorem alnum_eq (c : UInt8) : Tt.alnum c = (digitB c || letterB c):=by unfold Tt.alnum digitB letterB;rw [Bool.or_assoc]
def codeFrom (l : List UInt8) (k : Nat) : Bool:=if k = 0 then (match l with | [] => true | c :: r => Tt.alnum c && Tt.codeTail r) else Tt.codeTail (l.drop k)
theorem codeFrom_end (l : List UInt8) (k : Nat) (h : l.length <= k) : codeFrom l k = true:=by
 unfold codeFrom;split
 ·rename_i hk
  subst hk;cases l with
  | nil => rfl
  | cons a t => simp at h
 ·rw [List.drop_eq_nil_of_le h];rfl
theorem codeFrom_step (l : List UInt8) (k : Nat) (c : UInt8) (h : l[k]? = some c) : codeFrom l k = ((Tt.alnum c || (decide (0 < k) && Tt.sign c)) && codeFrom l (k + 1)):=by
 have hd:=drop_cons l k c h;unfold codeFrom;rw [if_neg (show ¬ k + 1 = 0 by omega)];by_cases hk : k = 0
 ·subst hk;rw [if_pos rfl];cases l with
  | nil => simp at h
  | cons a t => simp at h;subst h;simp
 ·rw [if_neg hk,hd];have : decide (0 < k) = true:=decide_eq_true (by omega);rw [this];simp [Tt.codeTail]
theorem code_eq (l : List UInt8) : Tt.code l = (decide (1 <= l.length) && decide (l.length <= 16) && codeFrom l 0):=by
 cases l with
 | nil => rfl
 | cons c r => simp [Tt.code,codeFrom,Bool.and_assoc]
theorem ret_bool {a b : Bool} (h : a = b) : Ending.returned (.bool a) = .returned (.bool b):=by rw [h]
theorem code_any (s : ByteArray) (w : World) : Calls Tryz.prog 48 #[.string s] w fun e w' => e = .returned (.bool (Tt.code s.data.toList)) /\ w' = w:=by
  have HL:=Lh (Lib.size_eq s);by_cases h1 : 1 <= s.size /\ s.size <= 16
  · obtain ⟨h1,h2⟩:=h1;have HC:=Lh (show Tt.code s.data.toList = codeFrom s.data.toList 0 by
      rw [code_eq,<- HL.out,decide_eq_true h1,decide_eq_true h2];rfl)
    have q1 : decide ((s.size : Int) < 1) = false:=decide_eq_false (by omega);have q2 : decide ((16 : Int) < (s.size : Int)) = false:=decide_eq_false (by omega);go_enter Tryz.func48,Tryz.ntmps48;go_wp2_with fail;go_loop [15] (fun i => ∃ k : Nat,k <= s.size /\ i = .int .i64 k /\ Hid (codeFrom s.data.toList 0 = codeFrom s.data.toList k)) (fun i => s.size - (intOf i).toNat)
    case atStart => exact ⟨0,xi _,rfl,rfl⟩
    case round =>
      obtain ⟨k,hk,rfl,HK⟩:=hrel;by_cases hlt : k < s.size
      · obtain ⟨c,hx⟩ : ∃ c : UInt8,s[k]'hlt = c:=⟨_,rfl⟩
        have hcl:=Lib.data_getElem? s k hlt;rw [hx] at hcl;have HS:=Lh (codeFrom_step _ _ _ hcl);have HA:=Lh (alnum_eq c);have hsg : (¬ ((0 : Int) < (k : Int)) /\ Hid ((decide (0 < k) && Tt.sign c) = false)) ∨ (((0 : Int) < (k : Int)) /\ ((c.toNat : Int) == 95) = true /\ Hid ((decide (0 < k) && Tt.sign c) = true)) ∨
            (((0 : Int) < (k : Int)) /\ ((c.toNat : Int) == 95) = false /\ ((c.toNat : Int) == 45) = true /\ Hid ((decide (0 < k) && Tt.sign c) = true)) ∨
            (((0 : Int) < (k : Int)) /\ ((c.toNat : Int) == 95) = false /\ ((c.toNat : Int) == 45) = false /\ Hid ((decide (0 < k) && Tt.sign c) = false)):=by
          by_cases hk0 : 0 < k
          · have hki : (0 : Int) < (k : Int):=by omega
            by_cases e : c = 95
            · exact .inr (.inl ⟨hki,byte_eq c 95 95 rfl e,by show _ = _;rw [decide_eq_true hk0,e];rfl⟩)
            · by_cases e2 : c = 45
              · exact .inr (.inr (.inl ⟨hki,byte_ne c 95 95 rfl e,byte_eq c 45 45 rfl e2,by show _ = _;rw [decide_eq_true hk0,e2];rfl⟩))
              · refine .inr (.inr (.inr ⟨hki,byte_ne c 95 95 rfl e,byte_ne c 45 45 rfl e2,?_⟩));show _ = _
                unfold Tt.sign;rw [beq_eq_false_iff_ne.2 e,beq_eq_false_iff_ne.2 e2];simp
          · exact .inl ⟨by omega,by show _ = _;rw [decide_eq_false hk0];rfl⟩
        have hdl : (digitB c = true /\ Hid (Tt.alnum c = true)) ∨ (digitB c = false /\ letterB c = true /\ Hid (Tt.alnum c = true)) ∨ (digitB c = false /\ letterB c = false /\ Hid (Tt.alnum c = false)):=by
          cases e1 : digitB c
          · cases e2 : letterB c
            · exact .inr (.inr ⟨rfl,rfl,by show _ = _;rw [HA.out,e1,e2];rfl⟩)
            · exact .inr (.inl ⟨rfl,rfl,by show _ = _;rw [HA.out,e1,e2];rfl⟩)
          · exact .inl ⟨rfl,by show _ = _;rw [HA.out,e1];rfl⟩
        clear hcl HA;rcases hsg with ⟨g1,GS⟩ | ⟨g1,g2,GS⟩ | ⟨g1,g2,g3,GS⟩ | ⟨g1,g2,g3,GS⟩
        all_goals
          rcases hdl with ⟨d1,DS⟩ | ⟨d1,d2,DS⟩ | ⟨d1,d2,DS⟩
          all_goals
            go_wp2_with (first | (go_at_call 98;refine (digit_any _ c rfl _).mono ?_;rintro e w' ⟨rfl,rfl⟩) | (go_at_call 99;refine (letter_any _ c rfl _).mono ?_;rintro e w' ⟨rfl,rfl⟩));first
              | (go_ret
                 exact ⟨ret_bool (by rw [HC.out,HK.out,HS.out,GS.out,DS.out];rfl),rfl⟩)
              | (go_round
                 case rel => exact ⟨k + 1,by omega,by go_num,by show _ = _;rw [HK.out,HS.out,GS.out,DS.out];simp⟩
                 case measure => simp [intOf];omega)
      · go_wp2_with fail;go_ret;exact ⟨ret_bool (by rw [HC.out,HK.out,codeFrom_end _ _ (by rw [<- HL.out];omega)]),rfl⟩
  · have HC:=Lh (show Tt.code s.data.toList = false by
      rw [code_eq,<- HL.out];by_cases e : 1 <= s.size
      · rw [decide_eq_false (show ¬ s.size <= 16 by omega)];simp
      · rw [decide_eq_false e];rfl)
    by_cases e : 1 <= s.size
    · have q1 : decide ((s.size : Int) < 1) = false:=decide_eq_false (by omega);have q2 : decide ((16 : Int) < (s.size : Int)) = true:=decide_eq_true (by omega);clear h1;go_enter Tryz.func48,Tryz.ntmps48;go_wp2_with fail;go_ret;exact ⟨ret_bool (by rw [HC.out]),rfl⟩
    · have q1 : decide ((s.size : Int) < 1) = true:=decide_eq_true (by omega);clear h1;go_enter Tryz.func48,Tryz.ntmps48;go_wp2_with fail;go_ret;exact ⟨ret_bool (by rw [HC.out]),rfl⟩
end Go.Proofs.YtcomifbfldoeiaaGreatDoor
