/- strings.IndexAny and ContainsAny at the two bytes of a line's end, for every string. strings.IndexRune at a rune that is no ASCII, in two ASCII bytes. strings.IndexAny and ContainsAny at the two bytes of a line's end, for every string shorter than the model's bound. More plain facts on lines: how pieces are joined one by one, and how long they are. feed.Unfold: its contract. -/
import Derived.Test.YtcomifbfldoeiaaGreatDoorQk4
import Derived.Laws.Runes
import Derived.Laws.RangeAny
import Derived.Lib.OthersKept
import Derived.Deep.LoopGhost
import Derived.Outline
import Derived.WalkMore
import Derived.Test.YtcomifbfldoeiaaGreatDoorQk3
open List renaming length_append->xa,getElem?_eq_some_iff->xb,getElem?_eq_getElem->xe,getElem?_map->xf,mem_of_getElem?->xi,flatten_cons->xj,length_nil->xk,length_map->xl
open Nat renaming le_refl->xc,zero_le->xg
open Go.World renaming ownsRow_nil->xd
open Array renaming getElem?_eq_some_iff->xh
set_option maxRecDepth 100000
set_option maxHeartbeats 40000000
-- CrLf
namespace Go.Proofs.YtcomifbfldoeiaaGreatDoor
open Go.RowKit
theorem decode_valid (s : ByteArray) (pos : Nat) : Utf8.valid ((Utf8.decode s pos).1 : Nat) = true:=by
 have hb : ∀ k,(s.get! (pos + k)).toNat < 256:=fun k => (s.get! (pos + k)).toNat_lt
 have h0:=hb 0;have h1:=hb 1;have h2:=hb 2;have h3:=hb 3;simp only [Utf8.decode];repeat' split
 all_goals simp_all [Utf8.runeError,Utf8.valid]
 all_goals omega
theorem get_of (s : ByteArray) (k : Nat) (h : k < s.size) : s.get! k = s[k]'h:=by
 simp [ByteArray.get!,getElem!_pos,h];rfl
theorem decode_cont (s : ByteArray) (pos j : Nat) (h1 : 1 <= j) (h2 : j < (Utf8.decode s pos).2) : ∃ h : pos + j < s.size,128 <= (s[pos + j]'h).toNat:=by
 have key : ∀ k,(pos + k < s.size /\ (s.get! (pos + k)).toNat / 64 = 2) -> ∃ h : pos + k < s.size,128 <= (s[pos + k]'h).toNat:=by
  rintro k ⟨a,b⟩;refine ⟨a,?_⟩;rw [get_of s (pos + k) a] at b;omega
 simp only [Utf8.decode] at h2;apply key
 repeat' split at h2
 all_goals simp_all
 ·obtain rfl : j = 1:=by omega
  simp_all
 ·obtain rfl | rfl : j = 1 ∨ j = 2:=by omega
  all_goals simp_all
 ·obtain rfl | rfl | rfl : j = 1 ∨ j = 2 ∨ j = 3:=by omega
  all_goals simp_all
theorem indexRune_fault (s : ByteArray) (ha : ∀ (j : Nat) (h : j < s.size),(s[j]'h).toNat < 128) (r : Nat) (h1 : r = 65533) (w : World) :
  Calls Tryz.prog 287 #[.string s,.int .i32 (r : Int)] w fun e w' => e = .returned (.int .i64 (-1)) /\ Below w.heap.size w w':=by
 have HA:=Lh ha;clear ha;have hr0 : ¬ ((r : Int) < 128):=by omega
 have hr1 : (0 : Int) <= r:=by omega
 have hq : ((r : Int) == 65533) = true:=beq_iff_eq.2 (by omega);clear h1;go_enter Tryz.func287,Tryz.ntmps287;go_wp2_with fail;go_loopg [5,6] s.size (fun g _ _ wx => ∃ i : Nat,i + g = s.size /\ wx = w.iter s i)
 case atStart => exact ⟨0,by omega,rfl⟩
 case round =>
  obtain ⟨i,hig,rfl⟩:=hrel;cases gk with
  | zero =>
   obtain rfl : i = s.size:=by omega
   have hnx:=run_next_end (P:=Tryz.prog) w s s.size;go_wp2_with fail;go_ret;exact ⟨rfl,(Below.refl _ w).alloc (xc _) _⟩
  | succ g =>
   have hi : i < s.size:=by omega
   have hx:=HA.out i hi;obtain ⟨x,hxx⟩ : ∃ x : UInt8,s[i]'hi = x:=⟨_,rfl⟩
   rw [hxx] at hx;have hnx:=fun ty => run_next_ascii (P:=Tryz.prog) w s i ty hi (by rw [hxx];exact hx)
   rw [hxx] at hnx;clear hxx;have hq2 : ((x.toNat : Int) == 65533) = false:=beq_eq_false_iff_ne.2 (by omega);go_wp2_with fail;go_roundg g
   case measure => omega
   case rel => exact ⟨i + 1,by omega,rfl⟩
end Go.Proofs.YtcomifbfldoeiaaGreatDoor
-- CrLf2
namespace Go.Proofs.YtcomifbfldoeiaaGreatDoor
open Go.RowKit
theorem validRune_of (r : Nat) (hv : Utf8.valid (r : Int) = true) : Lib.validRune (r : Int) = true:=by
 unfold Lib.validRune;unfold Utf8.valid at hv;simp at hv ⊢;omega
theorem indexRune_long (s E : ByteArray) (hs : s.size <= 2) (r : Nat) (hr : 128 <= r) (hr2 : r <= 2147483647) (hn : ¬ r = 65533) (hv : Lib.validRune (r : Int) = true) (hE : Utf8.encode (r : Int) = E) (h3 : 3 <= E.size) (h4 : E.size <= 4) (w : World) :
  Calls Tryz.prog 287 #[.string s,.int .i32 (r : Int)] w fun e w' => e = .returned (.int .i64 (-1)) /\ Below w.heap.size w w':=by
 have hr0 : ¬ ((r : Int) < 128):=by omega
 have hr1 : (0 : Int) <= r:=by omega
 have hq : ((r : Int) == 65533) = false:=beq_eq_false_iff_ne.2 (by omega);have HV:=Lh hv;clear hn hv;go_enter Tryz.func287,Tryz.ntmps287;go_wp2_with fail;refine (Tryz.utf8_ValidRune _ _).mono ?_;rintro e w' ⟨rfl,rfl⟩;rw [HV.out];go_wp2_with fail;go_step3
 go_wp2_with fail;go_loopg [9,10] 0 (fun _ a b wx => a = .int .i64 ((E.size : Int) - 1) /\ b = .int .i64 0 /\ wx = w')
 case atStart => exact ⟨rfl,rfl,rfl⟩
 case round =>
  obtain ⟨rfl,rfl,rfl⟩:=hrel;have hge : ¬ ((E.size : Int) - 1 < (s.size : Int)):=by omega
  go_wp2_with fail;go_ret;exact ⟨rfl,Below.refl _ _⟩
theorem indexRune_two (s E : ByteArray) (hs : s.size <= 2) (hs2 : 2 <= s.size) (r : Nat) (hr : 128 <= r) (hr2 : r <= 2147483647) (hn : ¬ r = 65533) (hv : Lib.validRune (r : Int) = true) (hE : Utf8.encode (r : Int) = E) (h3 : E.size = 2) (w : World)
  (x y : UInt8) (hx : ∀ h : 1 < s.size,s[1]'h = x) (hy : ∀ h : 1 < E.size,E[1]'h = y) (hne : ((x.toNat : Int) != (y.toNat : Int)) = true) :
  Calls Tryz.prog 287 #[.string s,.int .i32 (r : Int)] w fun e w' => e = .returned (.int .i64 (-1)) /\ ∃ n,w' = w.drewN n:=by
 have hr0 : ¬ ((r : Int) < 128):=by omega
 have hr1 : (0 : Int) <= r:=by omega
 have hq : ((r : Int) == 65533) = false:=beq_eq_false_iff_ne.2 (by omega);have HV:=Lh hv;have HX:=Lh hx;have HY:=Lh hy;have HNE:=Lh hne;clear hn hv hx hy hne;go_enter Tryz.func287,Tryz.ntmps287;go_wp2_with fail;refine (Tryz.utf8_ValidRune _ _).mono ?_;rintro e w' ⟨rfl,rfl⟩;rw [HV.out];go_wp2_with fail;go_step3
 go_wp2_with fail;go_loopg [9,10] 0 (fun _ a b wx => a = .int .i64 1 /\ b = .int .i64 0 /\ wx = w')
 case atStart => exact ⟨rfl,rfl,rfl⟩
 case round =>
  obtain ⟨rfl,rfl,rfl⟩:=hrel;have hge : (1 : Int) < (s.size : Int):=by omega
  go_wp2_with fail;go_step3
  go_wp2_with fail;have hx1:=HX.out (by omega);have hy1:=HY.out (by omega);have hne:=HNE.out;have hg2 : 1 < s.size:=by omega
  have hg3 : (1 : Int) < (E.size : Int):=by omega
  have hg4 : 1 < E.size:=by omega
  go_quiet (fail)
  go_wp2_with fail;have hw1 : IntKind.i64.wrap (2 : Int) = 2:=by rw [IntKind.wrap_i64];rfl
  clear hx1 hne;have hz1 : (2 : Int) <= (s.size : Int):=by omega
  generalize hw2 : wr.drewN nq = w2;have HW:=Lh hw2;clear hw2;have HC : ∀ W,Calls Tryz.prog 318 #[.string (s.extract 2 s.size),.int .u8 (y.toNat : Int)] W fun e w' => e = .returned (.int .i64 (-1)) /\ w' = W:=fun W => by
   have h:=Tryz.strings_IndexByte (s.extract 2 s.size) (y.toNat : Int) W;have hib : Lib.indexByte (s.extract 2 s.size).data.toList ((y.toNat : Int)).toNat.toUInt8 = -1:=by
    rw [Lib.extract_to_end,List.drop_eq_nil_of_le (by rw [<- Lib.size_eq];omega)];rfl
   rw [hib] at h;exact h
  have HCC:=Lh HC;clear HC;go_quiet ((go_at_call 318;exact Calls.quiet_of_same (HCC.out _)));clear hw1 hg3 hz1 hge hy1 hE;go_wp2_with fail;rw [Exit.noGoto_ret];try simp only [Exit.inBlock,Exit.then]
  rw [Exit.noGoto_ret];go_ret;exact ⟨rfl,_,by rw [<- HW.out,World.drewN_drewN]⟩
end Go.Proofs.YtcomifbfldoeiaaGreatDoor
-- CrLf3
namespace Go.Proofs.YtcomifbfldoeiaaGreatDoor
open Go.RowKit
theorem indexRune_any (ch : ByteArray) (hch : ch.data.toList = [13,10]) (s : ByteArray) (pos : Nat) (h : pos < s.size) (ha : 128 <= (s[pos]'h).toNat) (w : World) :
  Calls Tryz.prog 287 #[.string ch,.int .i32 ((Utf8.decode s pos).1 : Int)] w fun e w' => e = .returned (.int .i64 (-1)) /\ Below w.heap.size w w':=by
 have hsz : ch.size = 2:=by rw [Lib.size_eq,hch];rfl
 have hv:=decode_valid s pos;have h128:=(decode_high s pos h ha).1;have hle:=decode_le s pos;generalize (Utf8.decode s pos).1 = r at hv h128 hle;have hg : ∀ (j : Nat) (hj : j < ch.size),(ch[j]'hj).toNat < 128 /\ (j = 1 -> ch[j]'hj = 10):=by
  intro j hj;have e:=Lib.data_getElem? ch j hj;rw [hch] at e;have : j = 0 ∨ j = 1:=by omega
  rcases this with rfl | rfl
  ·simp at e;rw [<- e];exact ⟨by decide,by omega⟩
  ·simp at e;rw [<- e];exact ⟨by decide,fun _ => rfl⟩
 by_cases h1 : r = 65533
 ·exact indexRune_fault ch (fun j hj => (hg j hj).1) r h1 w
 ·have hE:=encode_facts (r : Int) hv (by omega);obtain ⟨E,hEe⟩ : ∃ E,Utf8.encode (r : Int) = E:=⟨_,rfl⟩
  rw [hEe] at hE;obtain ⟨e1,e2,e3⟩:=hE;by_cases h2 : E.size = 2
  ·have hl : 1 < E.size:=by omega
   have e4 : ∀ (k : Nat) (hk : k < E.size),k = E.size - 1 -> 128 <= (E[k]'hk).toNat:=by
    intro k hk e;subst e;exact e3 hk
   have e5:=e4 1 hl (by omega);refine (indexRune_two ch E (by omega) (by omega) r h128 hle h1 (validRune_of r hv) hEe h2 w 10 (E[1]'hl) (fun hh => (hg 1 hh).2 rfl) (fun _ => rfl) ?_).mono ?_
   ·rw [bne_iff_ne];intro e;have : ((10 : UInt8).toNat : Int) = 10:=rfl;omega
   ·rintro e w' ⟨rfl,n,rfl⟩;exact ⟨rfl,rfl,rfl,rfl,by simp,fun _ _ => rfl⟩
  ·exact indexRune_long ch E (by omega) r h128 hle h1 (validRune_of r hv) hEe (by omega) e2 w
def NoEnd (s : ByteArray) (i : Nat) : Prop:=∀ j c,j < i -> s.data.toList[j]? = some c -> c ≠ 13 /\ c ≠ 10
theorem NoEnd.clean {s : ByteArray} (h : NoEnd s s.size) : Tt.Clean s.data.toList:=by
 intro c hc;obtain ⟨j,hj,e⟩:=List.mem_iff_getElem.1 hc;exact h j c (by rw [Lib.size_eq];exact hj) (by rw [xe hj,e])
theorem not_clean {s : ByteArray} {i : Nat} {c : UInt8} (h : s.data.toList[i]? = some c) (hc : c = 13 ∨ c = 10) : ¬ Tt.Clean s.data.toList:=by
 intro hcl;have:=hcl c (xi h);rcases hc with e | e
 ·exact this.1 e
 ·exact this.2 e
theorem indexByte_ends (ch : ByteArray) (hch : ch.data.toList = [13,10]) (c : UInt8) : (c = 13 ∨ c = 10 -> 0 <= Lib.indexByte ch.data.toList c) /\ (¬ (c = 13 ∨ c = 10) -> Lib.indexByte ch.data.toList c < 0):=by
 have h:=Lib.contains_iff_indexByte ch.data.toList c;rw [hch] at h ⊢;constructor
 ·intro hc;have : [13,10].contains c = true:=by simp;exact hc
  rw [this] at h;exact of_decide_eq_true h.symm
 ·intro hc;have : [13,10].contains c = false:=by simpa using hc
  rw [this] at h;have:=of_decide_eq_false h.symm;omega
theorem indexAny_short (ch : ByteArray) (hch : ch.data.toList = [13,10]) (s : ByteArray) (h8 : s.size <= 8) (w : World) :
  Calls Tryz.prog 232 #[.string s,.string ch] w fun e w' => ∃ v : Int,e = .returned (.int .i64 v) /\ (Tt.Clean s.data.toList -> v < 0) /\ (¬ Tt.Clean s.data.toList -> 0 <= v) /\ Below w.heap.size w w':=by
 have hsz2 : ch.size = 2:=by rw [Lib.size_eq,hch];rfl
 have HB:=Lh (indexByte_ends ch hch);have HCH:=Lh hch;have hemp : ch.toList.isEmpty = false:=by rw [Lib.toList_data,hch];rfl
 have hn1 : ((ch.size : Int) == 1) = false:=beq_eq_false_iff_ne.2 (by omega);have h8z : decide ((8 : Int) < (s.size : Int)) = false:=decide_eq_false (by omega);clear hch hsz2;go_enter Tryz.func232,Tryz.ntmps232;go_wp2_with (go_at_call 288;refine (Tryz.strings_shouldUseASCIISet _ _).mono ?_;rintro e w' ⟨rfl,hw⟩;rw [hw,h8z];clear hw);clear hemp hn1 h8z;go_loopw [9,10] (fun _ _ wr => ∃ pos : Nat,pos <= s.size /\ wr.heap[w.heap.size]? = some (.stringIter s pos) /\ Below w.heap.size w wr /\ NoEnd s pos) (fun _ _ wr => s.size - wr.iterPos w.heap.size)
 case atStart =>
  exact ⟨0,xg _,World.iter_heap w s 0,(Below.refl _ w).alloc (xc _) _,fun j c hj => absurd hj (Nat.not_lt_zero _)⟩
 case round =>
  obtain ⟨pos,hp,hit,hbw,hno⟩:=hrel;have HNO:=Lh hno;clear hno;have hszw : w.heap.size + 1 <= wr.heap.size:=(xh.1 hit).1;by_cases hlt : pos < s.size
  ·have hd1:=decode_le s pos;have hit2:=Lib.iterAt_heap wr w.heap.size s pos (pos + (Utf8.decode s pos).2) hit;have hbw2:=Lib.below_iterAt hbw (k:=w.heap.size) (xc _) s (pos + (Utf8.decode s pos).2);have hsz2 : w.heap.size + 1 <= (wr.iterAt w.heap.size s (pos + (Utf8.decode s pos).2)).heap.size:=by rw [Lib.iterAt_size];omega
   obtain ⟨c,hx⟩ : ∃ c : UInt8,s[pos]'hlt = c:=⟨_,rfl⟩
   have hcl:=Lib.data_getElem? s pos hlt;rw [hx] at hcl;have HC:=Lh hcl;clear hcl;by_cases ha : c.toNat < 128
   ·have hdec:=decode_ascii s pos hlt (by rw [hx];exact ha);rw [hx] at hdec;rw [hdec] at hit2 hbw2 hsz2;have hnx : ∀ ty,(Instr.next (.pointer (some ⟨w.heap.size,0,none⟩)) true ty).run Tryz.prog wr = .ok (.tuple #[.bool true,.int .i64 pos,.int .i32 (c.toNat : Int)]) (wr.iterAt w.heap.size s (pos + 1)):=fun ty => by
     have:=Lib.run_next_ascii_at (P:=Tryz.prog) wr w.heap.size s pos ty hit hlt (by rw [hx];exact ha);rw [this,hx]
    clear hx hdec;have hback : ((c.toNat : Int)).toNat.toUInt8 = c:=by simp
    by_cases hce : c = 13 ∨ c = 10
    ·have hge:=(HB.out c).1 hce;have HNC:=Lh (not_clean HC.out hce);clear hce;go_wp2_with (go_at_call 287;refine (Tryz.strings_IndexRune_ascii _ _ _ (by omega) (by omega)).mono ?_;rintro e w' ⟨rfl,hw⟩;rw [hw,hback];clear hw);go_ret;exact ⟨_,rfl,fun h => absurd h HNC.out,fun _ => by omega,hbw2⟩
    ·have hlt0:=(HB.out c).2 hce;have HNC:=Lh hce;clear hce;go_wp2_with (go_at_call 287;refine (Tryz.strings_IndexRune_ascii _ _ _ (by omega) (by omega)).mono ?_;rintro e w' ⟨rfl,hw⟩;rw [hw,hback];clear hw);go_roundw
     case rel =>
      refine ⟨pos + 1,by omega,hit2,hbw2,?_⟩;intro j c' hj hc';by_cases e : j = pos
      ·subst e;rw [HC.out] at hc';cases hc';exact ⟨fun e => HNC.out (.inl e),fun e => HNC.out (.inr e)⟩
      ·exact HNO.out j c' (by omega) hc'
     case measure => simp only [World.iterPos,hit2,hit];omega
   ·have hwd:=(decode_high s pos hlt (by rw [hx];omega)).2;have hcont:=decode_cont s pos;have HCO:=Lh hcont;have HIR:=Lh (fun W => indexRune_any ch HCH.out s pos hlt (by rw [hx];omega) W);have hnx : ∀ ty,(Instr.next (.pointer (some ⟨w.heap.size,0,none⟩)) true ty).run Tryz.prog wr = _:=fun ty => Lib.run_next_any_at (P:=Tryz.prog) wr w.heap.size s pos ty hit hlt
    have hposw : pos + (Utf8.decode s pos).2 <= s.size:=by
     by_cases e : (Utf8.decode s pos).2 = 1
     ·omega
     ·obtain ⟨h,_⟩:=hcont ((Utf8.decode s pos).2 - 1) (by omega) (by omega);omega
    clear hcont hx;go_wp2_with fail;refine (HIR.out _).mono ?_;rintro e w2 ⟨rfl,hb2⟩;have hit3 : w2.heap[w.heap.size]? = some (.stringIter s (pos + (Utf8.decode s pos).2)):=(hb2.block _ (by omega)).trans hit2;go_wp2_with fail;go_roundw
    case rel =>
     refine ⟨pos + (Utf8.decode s pos).2,hposw,hit3,hbw2.trans (hb2.mono (by omega)),?_⟩;intro j c' hj hc';by_cases e : j < pos
     ·exact HNO.out j c' e hc'
     ·by_cases e2 : j = pos
      ·subst e2;rw [HC.out] at hc';cases hc';exact ⟨fun e => by subst e;simp at ha,fun e => by subst e;simp at ha⟩
      ·obtain ⟨hh,h128⟩:=HCO.out (j - pos) (by omega) (by omega);have e3 : pos + (j - pos) = j:=by omega
       simp only [e3] at hh h128;have:=Lib.data_getElem? s j hh;rw [this] at hc';cases hc';exact ⟨fun e => by rw [e] at h128;simp at h128,fun e => by rw [e] at h128;simp at h128⟩
    case measure => simp only [World.iterPos,hit3,hit];omega
  ·obtain rfl : pos = s.size:=by omega
   have hnx : ∀ ty,(Instr.next (.pointer (some ⟨w.heap.size,0,none⟩)) true ty).run Tryz.prog wr = _:=fun ty => Lib.run_next_end_at (P:=Tryz.prog) wr w.heap.size s s.size ty hit hlt
   go_wp2_with fail;go_ret;exact ⟨-1,rfl,fun _ => by omega,fun h => absurd HNO.out.clean h,hbw⟩
theorem indexAny_ge (chars : List UInt8) : ∀ l : List UInt8,(Tt.Clean l -> chars = [13,10] -> Lib.indexAny l chars < 0) /\ (¬ Tt.Clean l -> chars = [13,10] -> 0 <= Lib.indexAny l chars)
 | [] => ⟨fun _ _ => by unfold Lib.indexAny;decide,fun h => absurd (by simp [Tt.Clean]) h⟩
 | b :: l => by
  have ih:=indexAny_ge chars l;constructor
  ·intro h e;have hb:=h b (by simp);have hl : Tt.Clean l:=fun x hx => h x (by simp [hx])
   have h1:=ih.1 hl e;have h2:=Lib.indexAny_ge chars l;have hc : chars.contains b = false:=by subst e;simp [hb]
   rw [Lib.indexAny,hc];have : Lib.indexAny l chars = -1:=by omega
   rw [this];decide
  ·intro h e;rw [Lib.indexAny];by_cases hc : chars.contains b = true
   ·rw [if_pos hc];exact Int.le_refl _
   ·rw [if_neg hc];have hb : b ≠ 13 /\ b ≠ 10:=by subst e;simpa using hc
    have hl : ¬ Tt.Clean l:=fun hl => h (fun x hx => by
     rcases List.mem_cons.1 hx with rfl | hx
     ·exact hb
     ·exact hl x hx)
    have h1:=ih.2 hl e;rw [if_neg (fun e => by have:=beq_iff_eq.1 e;omega)];omega
theorem containsAny_any (ch : ByteArray) (hch : ch.data.toList = [13,10]) (s : ByteArray) (hs : s.size < 4294967281) (w : World) :
  Calls Tryz.prog 173 #[.string s,.string ch] w fun e w' => e = .returned (.bool (!decide (Tt.Clean s.data.toList))) /\ Below w.heap.size w w':=by
 have hsz2 : ch.size = 2:=by rw [Lib.size_eq,hch];rfl
 have hcall : Calls Tryz.prog 232 #[.string s,.string ch] w fun e w' => ∃ v : Int,e = .returned (.int .i64 v) /\ (Tt.Clean s.data.toList -> v < 0) /\ (¬ Tt.Clean s.data.toList -> 0 <= v) /\ Below w.heap.size w w':=by
  by_cases h8 : s.size <= 8
  ·exact indexAny_short ch hch s h8 w
  ·refine (Tryz.strings_IndexAny_long ?_ s ch w (by omega) (by omega) hs (by omega) ?_).mono ?_
   ·intro w;kernel_rfl
   ·intro j b hb;rw [hch] at hb;have : j = 0 ∨ j = 1:=by
     have:=(xb.1 hb).1;simp at this;omega
    rcases this with rfl | rfl <;> (simp at hb;subst hb;decide)
   ·rintro e w' ⟨rfl,rfl⟩;have:=indexAny_ge ch.data.toList s.data.toList;exact ⟨_,rfl,fun h => this.1 h hch,fun h => this.2 h hch,((Below.refl _ w).alloc (xc _) _).alloc (by simp) _⟩
 have HC:=Lh hcall;clear hcall hch hsz2;by_cases hcl : Tt.Clean s.data.toList
 ·have HD:=Lh (show (!decide (Tt.Clean s.data.toList)) = false by simp [hcl]);have HCL:=Lh hcl;clear hcl;go_enter Tryz.func173,Tryz.ntmps173;go_wp2_with fail;refine HC.out.mono ?_;rintro e w1 ⟨v,rfl,h1,_,hb⟩;have h1':=h1 HCL.out;have hv : decide ((0 : Int) <= v) = false:=decide_eq_false (by omega);clear h1;go_wp2_with fail;go_ret;rw [HD.out];exact ⟨rfl,hb⟩
 ·have HD:=Lh (show (!decide (Tt.Clean s.data.toList)) = true by simp [hcl]);have HCL:=Lh hcl;clear hcl;go_enter Tryz.func173,Tryz.ntmps173;go_wp2_with fail;refine HC.out.mono ?_;rintro e w1 ⟨v,rfl,_,h1,hb⟩;have h1':=h1 HCL.out;have hv : decide ((0 : Int) <= v) = true:=decide_eq_true (by omega);clear h1;go_wp2_with fail;go_ret;rw [HD.out];exact ⟨rfl,hb⟩
end Go.Proofs.YtcomifbfldoeiaaGreatDoor
-- Bytes2
namespace Tt
theorem joinL_append : ∀ (a b out : List (List UInt8)),joinL out (a ++ b) = (joinL out a).bind fun o => joinL o b
 | [],b,out => by simp [joinL]
 | l :: a,b,out => by
  rw [List.cons_append,joinL,joinL];split
  ·split
   ·rfl
   ·exact joinL_append a b _
  ·exact joinL_append a b _
theorem joinL_one (out : List (List UInt8)) (p : List UInt8) : joinL out [p] = if begins p then (if out = [] then none else some (out.dropLast ++ [out.getLastD [] ++ p.tail])) else some (out ++ [p]):=by
 rw [joinL];split
 ·split
  ·rfl
  ·simp [joinL]
 ·simp [joinL]
theorem joinL_next (ps : List (List UInt8)) (k : Nat) (p : List UInt8) (out : List (List UInt8)) (bl : List UInt8) (hp : ps[k]? = some p) (h : joinL [] (ps.take k) = some (out ++ [bl])) :
  joinL [] (ps.take (k + 1)) = some (if begins p then out ++ [bl ++ p.tail] else (out ++ [bl]) ++ [p]):=by
 obtain ⟨h1,h2⟩:=xb.1 hp;rw [List.take_succ_eq_append_getElem h1,h2,joinL_append,h];show joinL (out ++ [bl]) [p] = _
 rw [joinL_one];split
 ·rw [if_neg (by simp)];simp
 ·rfl
theorem joinL_first (ps : List (List UInt8)) (p : List UInt8) (hp : ps[0]? = some p) : joinL [] (ps.take 1) = if begins p then none else some [p]:=by
 cases ps with
 | nil => simp at hp
 | cons a t =>
  simp at hp;subst hp;show joinL [] [a] = _
  rw [joinL_one];simp
theorem joinL_fails (ps : List (List UInt8)) (k : Nat) (h : joinL [] (ps.take k) = none) : joinL [] ps = none:=by
 rw [<- List.take_append_drop k ps,joinL_append,h];rfl
theorem between_length : ∀ (ls : List (List UInt8)),ls ≠ [] -> (between ls).length + 2 = ls.flatten.length + 2 * ls.length
 | [],h => absurd rfl h
 | [l],_ => by simp [between]
 | l :: m :: r,_ => by
  have:=between_length (m :: r) (by simp);rw [between_cons,xa,xj,xa];simp only [crlf,xa,List.length_cons,xk] at this ⊢;omega
theorem split_length (s : List UInt8) : (Go.Lib.split s [13,10]).flatten.length <= s.length /\ (Go.Lib.split s [13,10]).length <= s.length + 1:=by
 obtain ⟨h1,h2⟩:=split_joins s.length s (xc _);have h3:=between_length _ h2;rw [h1] at h3;have : 1 <= (Go.Lib.split s [13,10]).length:=List.length_pos_iff.2 h2;omega
theorem flatten_drop (ps : List (List UInt8)) (k : Nat) (p : List UInt8) (hp : ps[k]? = some p) : (ps.drop k).flatten.length = p.length + (ps.drop (k + 1)).flatten.length:=by
 obtain ⟨h1,h2⟩:=xb.1 hp;rw [List.drop_eq_getElem_cons h1,h2,xj,xa]
theorem begins_cons (c : UInt8) (r : List UInt8) : begins (c :: r) = (c == 32 || c == 9):=rfl
theorem unf_all (text t : List UInt8) (h : text = t ++ [13,10]) (hc : ∀ (j : Nat) p,(Go.Lib.split t [13,10])[j]? = some p -> Clean p) : unf text = joinL [] (Go.Lib.split t [13,10]):=by
 rw [unf_split text t h,if_pos];intro l hl;obtain ⟨j,hj,e⟩:=List.mem_iff_getElem.1 hl;exact hc j l (by rw [xe hj,e])
theorem unf_not (text t : List UInt8) (h : text = t ++ [13,10]) (j : Nat) (p : List UInt8) (hp : (Go.Lib.split t [13,10])[j]? = some p) (hc : ¬ Clean p) : unf text = none:=by
 rw [unf_split text t h,if_neg];intro ha;exact hc (ha p (xi hp))
theorem unf_stops (text t : List UInt8) (h : text = t ++ [13,10]) (k : Nat) (hj : joinL [] ((Go.Lib.split t [13,10]).take k) = none) : unf text = none:=by
 rw [unf_split text t h];split
 ·exact joinL_fails _ k hj
 ·rfl
theorem suffix_cut (text : List UInt8) (h : Go.Lib.hasSuffix text [13,10] = true) : text = Go.Lib.trimSuffix text [13,10] ++ [13,10]:=by
 unfold Go.Lib.trimSuffix;rw [if_pos h];unfold Go.Lib.hasSuffix at h;rw [List.isSuffixOf_iff_suffix] at h;obtain ⟨t,rfl⟩:=h;simp
end Tt
-- Unfold
namespace Go.Proofs.YtcomifbfldoeiaaGreatDoor
open Go.RowKit
theorem infoString : (Tryz.prog.info? 9).map (fun i => (i.zero,i.size,i.bytes)) = some (some (.string ⟨#[]⟩),1,16):=by kernel_rfl
def Unfolded (B : Nat) (text : List UInt8) (e : Ending) (w : World) : Prop :=
 (Tt.unf text = none /\ e = .returned (.tuple #[.slice none 0 0,.bool false])) ∨
 ∃ (g : Nat) (cap : Nat) (xs : List ByteArray),Tt.unf text = some (xs.map (·.data.toList)) /\ e = .returned (.tuple #[.slice (some ⟨g,0,none⟩) xs.length cap,.bool true]) /\ StrAt w (some ⟨g,0,none⟩) xs /\ B <= g /\ g < w.heap.size /\ xs.length <= cap /\ xs.length <= text.length + 1 /\ ∃ t cs,w.heap[g]? = some (.cells cs t (0,0))
def tot (ls : List (List UInt8)) : Nat:=ls.flatten.length
theorem ownsRow_below {w w' : World} {B : Nat} {e : TypeId} {size : Nat} {v : Value} {n : Nat} {xs : List Value} (h : w.ownsRow B e size v n xs) (ho : Below w.heap.size w w') : w'.ownsRow B e size v n xs:=by
 refine ⟨h.1,?_⟩;rcases h.2 with h1 | ⟨g,cap,cur,r1,r2,r3,r4⟩
 ·exact .inl h1
 ·exact .inr ⟨g,cap,cur,r1,r2,(ho.block g (xh.1 r3).1).trans r3,r4⟩
theorem crlf_str : (⟨#[13,10]⟩ : ByteArray).data.toList = [13,10]:=rfl
theorem pieces (t : ByteArray) : (Lib.splitB ⟨#[13,10]⟩ 0 (Lib.countB t ⟨#[13,10]⟩) t).map (·.data.toList) = Lib.split t.data.toList [13,10]:=by
 rw [Lib.splitB_data];rfl
theorem rows_apart {w : World} {B n m : Nat} {v u : Value} {xs ys : List Value} (h : w.ownsRow B 9 1 v n xs) (k : w.ownsRow B 5 1 u m ys) : v.ownBlock = none ∨ v.ownBlock ≠ u.ownBlock:=by
 rcases h.2 with ⟨rfl,_⟩ | ⟨g,cap,cur,rfl,_,hg,_⟩
 ·exact .inl rfl
 ·right
  rcases k.2 with ⟨rfl,_⟩ | ⟨g',cap',cur',rfl,_,hg',_⟩
  ·simp [Value.ownBlock]
  ·intro e;simp only [Value.ownBlock,Option.some.injEq] at e;subst e;rw [hg] at hg';simp at hg'
theorem rows_apart' {w : World} {B n m : Nat} {v u : Value} {xs ys : List Value} (h : w.ownsRow B 9 1 v n xs) (k : w.ownsRow B 5 1 u m ys) : u.ownBlock = none ∨ u.ownBlock ≠ v.ownBlock:=by
 rcases rows_apart h k with e | e
 ·by_cases h2 : u.ownBlock = none
  ·exact .inl h2
  ·exact .inr (by rw [e];exact h2)
 ·exact .inr (fun e2 => e e2.symm)
theorem slice_zero {w : World} {B n : Nat} {v : Value} {xs : List Value} (h : w.ownsRow B 5 1 v n xs) :
  ∃ v0,(∀ W,(Instr.slice 145 v none (some (.int .i64 0)) none).run Tryz.prog W = .ok v0 W) /\ (∀ W : World,W.ownsRow B 5 1 v n xs -> W.ownsRow B 5 1 v0 0 []) /\ v0.ownBlock = v.ownBlock:=by
 rcases h.2 with ⟨rfl,_⟩ | ⟨g,cap,cur,rfl,_⟩
 ·refine ⟨.slice none 0 0,fun W => ?_,fun W _ => xd _ _ _ _,rfl⟩;rw [run_slice_h W 145 none 0 0 Tryz.underlying145 .i64 0 (by omega) (by omega)];simp [sliced,go_sem]
 ·refine ⟨.slice (some ⟨g,0,none⟩) 0 cap,fun W => ?_,fun W hW => ?_,rfl⟩
  ·rw [run_slice_h W 145 (some ⟨g,0,none⟩) n cap Tryz.underlying145 .i64 0 (by omega) (by omega)];simp [sliced,go_sem,Addr.add]
  ·rcases hW.2 with ⟨h1,_⟩ | ⟨g',cap',cur',h1,h2,h3,h4,h5,h6,_⟩
   ·cases h1
   ·cases h1;exact ⟨rfl,.inr ⟨g,cap,cur',rfl,h2,h3,xg _,h5,h6,by simp⟩⟩
theorem cell_one (w : World) (v : Value) (e : TypeId) : ∀ (j : Nat) (u : Value),[v][j]? = some u -> (w.alloc (.cells #[v] e)).cell? ((⟨w.heap.size,0,none⟩ : Addr).add j) = some u:=by
 intro j u hj;match j,hj with
 | 0,hj =>
  simp at hj;subst hj;simp only [Addr.add,if_true];rw [World.cell?_alloc_at _ _ _ _ rfl];rfl
theorem unfold_any (s : ByteArray) (hs : s.size < 4294967281) (w : World) (m : Int) (hm : w.cell? ⟨0,0,none⟩ = some (.int .i64 m)) :
  Calls Tryz.prog 108 #[.string s] w fun e w' => Unfolded w.heap.size s.data.toList e w' /\ Below w.heap.size w w':=by
 by_cases hsuf : Lib.hasSuffix s.data.toList [13,10] = true
 ·have HT:=Lh (Tt.suffix_cut _ hsuf);have HSF:=Lh hsuf;obtain ⟨t,ht⟩ : ∃ t : ByteArray,t = ⟨(Lib.trimSuffix s.data.toList [13,10]).toArray⟩:=⟨_,rfl⟩
  have hts : t.size <= s.size:=by
   rw [Lib.size_eq,Lib.size_eq,ht];exact Lib.trimSuffix_le _ _
  have HTT:=Lh ht;have HPS:=Lh (pieces t);have hNl:=Lib.splitB_all ⟨#[13,10]⟩ (by decide) 0 (Lib.countB t ⟨#[13,10]⟩) t rfl;obtain ⟨ps,hps⟩ : ∃ ps,ps = Lib.splitB ⟨#[13,10]⟩ 0 (Lib.countB t ⟨#[13,10]⟩) t:=⟨_,rfl⟩
  rw [<- hps] at hNl;have HP:=Lh hps;clear hsuf ht hps;go_enter Tryz.func108,Tryz.ntmps108;go_wp2_with fail;refine (Tryz.strings_CutSuffix _ _ _ (by omega)).mono ?_;rintro e w' ⟨rfl,hw⟩;rw [hw];clear hw w';rw [crlf_str,HSF.out,<- HTT.out];go_wp2_with fail;refine (Tryz.strings_Split t ⟨#[13,10]⟩ m w (by omega) hm (by decide)).mono ?_;rintro e w1 ⟨rfl,hw⟩;rw [<- hNl];rw [<- HP.out] at hw;subst hw;obtain ⟨W,hW⟩ : ∃ W,W = w.alloc (Obj.cells (List.map Value.string ps).toArray 9):=⟨_,rfl⟩
  have hcells : ∀ (j : Nat) x,ps[j]? = some x -> W.cell? ⟨w.heap.size,j,none⟩ = some (.string x):=by
   intro j x hx;rw [hW,World.cell?_alloc_at _ _ _ _ rfl];simp [hx]
  have hbW : Below w.heap.size w W:=by rw [hW];exact (Below.refl _ w).alloc (xc _) _
  have hsW : w.heap.size + 1 <= W.heap.size:=by rw [hW];simp
  rw [<- hW];have HW:=Lh hW;have HCE:=Lh hcells;have hlen : ps.length <= t.size + 1 /\ tot ((ps.map (·.data.toList)).drop 0) <= t.size:=by
   have:=Tt.split_length t.data.toList;rw [<- HPS.out,<- HP.out,<- Lib.size_eq,xl] at this;exact ⟨this.2,this.1⟩
  obtain ⟨hlen,hflat⟩:=hlen;rw [<- HP.out] at HPS;have HSP : Hid (s.data.toList = t.data.toList ++ [13,10]):=by
   have h1:=HT.out;have h2 : t.data.toList = Lib.trimSuffix s.data.toList [13,10]:=by rw [HTT.out]
   exact h1.trans (by rw [h2])
  clear hW hcells HT HTT HSF;have hN2 : 1 <= ps.length:=by omega
  clear hNl;have HNl:=HP;clear HP;go_wp2_with fail;go_loopw [5,6,19] (fun ov bv i wr => ∃ (k : Nat) (out : List ByteArray) (bl : List UInt8),k <= ps.length /\ i = .int .i64 k /\ wr.ownsRow (w.heap.size + 1) 9 1 ov out.length (out.map Value.string) /\ wr.ownsRow (w.heap.size + 1) 5 1 bv bl.length (Lib.byteCells bl) /\ Below (w.heap.size + 1) W wr /\
   out.length <= k /\ bl.length + tot ((ps.map (·.data.toList)).drop k) <= t.size /\
   Hid (∀ (j : Nat) p,j < k -> ps[j]? = some p -> Tt.Clean p.data.toList) /\ Hid (k = 0 -> out = [] /\ ov = .slice none 0 0 /\ bv = .slice none 0 0) /\ Hid (0 < k -> Tt.joinL [] ((ps.map (·.data.toList)).take k) = some (out.map (·.data.toList) ++ [bl]) /\ out.length < k)) (fun _ _ i _ => ps.length - (intOf i).toNat)
  case atStart => exact ⟨0,[],[],xg _,rfl,xd _ _ _ _,xd _ _ _ _,Below.refl _ _,xg _,by rw [xk,Nat.zero_add];exact hflat,fun j p hj => absurd hj (Nat.not_lt_zero _),fun _ => ⟨rfl,rfl,rfl⟩,fun h => absurd h (Nat.lt_irrefl _)⟩
  case round =>
   obtain ⟨k,out,bl,hk,rfl,hown,hbyt,hbe,hol,hbl,HCL,H0,HJ⟩:=hrel;have hsr:=hbe.size;by_cases hlt : k < ps.length
   ·obtain ⟨p,hp⟩ : ∃ p,ps[k]? = some p:=⟨_,xe hlt⟩
    have hcp : wr.cell? ⟨w.heap.size,k,none⟩ = some (.string p):=(hbe.cell (p:=⟨w.heap.size,k,none⟩) (by simp)).trans (HCE.out k p hp);have hpm : (ps.map (·.data.toList))[k]? = some p.data.toList:=by rw [xf,hp];rfl
    have hfd:=Tt.flatten_drop _ _ _ hpm;have hbl2 : bl.length + (p.size + tot ((ps.map (·.data.toList)).drop (k + 1))) <= t.size:=by
     have e1 : tot ((ps.map (·.data.toList)).drop k) = p.size + tot ((ps.map (·.data.toList)).drop (k + 1)):=by
      unfold tot;rw [hfd,<- Lib.size_eq]
     rw [<- e1];exact hbl
    clear hbl;have HPM:=Lh hpm;have HPP:=Lh hp;clear hp hpm hfd;by_cases hcl : Tt.Clean p.data.toList
    ·have HD:=Lh (show (!decide (Tt.Clean p.data.toList)) = false by simp [hcl]);have HCP:=Lh hcl;clear hcl;go_wp2_with fail;refine (containsAny_any _ rfl p (by omega) _).mono ?_;rintro e w2 ⟨rfl,hb2⟩;rw [HD.out];have hown2 : w2.ownsRow (w.heap.size + 1) 9 1 u5 out.length (out.map Value.string):=ownsRow_below hown hb2;have hbyt2 : w2.ownsRow (w.heap.size + 1) 5 1 u6 bl.length (Lib.byteCells bl):=ownsRow_below hbyt hb2;have hbe2 : Below (w.heap.size + 1) W w2:=hbe.trans (hb2.mono (by omega));have hsr2:=hbe2.size;clear hown hbyt hbe hb2 hcp;by_cases hbg : Tt.begins p.data.toList = true
     ·obtain ⟨c,tl,hct⟩ : ∃ c tl,p.data.toList = c :: tl:=by
       cases h : p.data.toList with
       | nil => rw [h] at hbg;cases hbg
       | cons c tl => exact ⟨c,tl,rfl⟩
      have hp1 : 1 <= p.size:=by rw [Lib.size_eq,hct];simp
      have hx : p[0]'(by omega) = c:=by
       have:=Lib.data_getElem? p 0 (by omega);rw [hct] at this;simpa using this.symm
      have htests : ((c.toNat : Int) == 32) = true ∨ (((c.toNat : Int) == 32) = false /\ ((c.toNat : Int) == 9) = true):=by
       rw [hct,Tt.begins_cons,Bool.or_eq_true,beq_iff_eq,beq_iff_eq] at hbg;by_cases e : c = 32
       ·exact .inl (byte_eq c 32 32 rfl e)
       ·exact .inr ⟨byte_ne c 32 32 rfl e,byte_eq c 9 9 rfl (hbg.resolve_left e)⟩
      have hemp : p.toList.isEmpty = false:=by rw [Lib.toList_data,hct];rfl
      have HCT:=Lh hct;have HBG:=Lh hbg;clear hct hbg;by_cases hk0 : k = 0
      ·have HK0:=Lh hk0;have HU:=Lh (Tt.unf_stops _ _ HSP.out 1 (by
        rw [<- HPS.out,Tt.joinL_first _ _ (by rw [<- HPM.out,HK0.out]),if_pos HBG.out]))
       have hq : ((k : Int) == 0) = true:=beq_iff_eq.2 (by omega);clear hk0;rcases htests with h1 | ⟨h1,h2⟩
       all_goals
        go_wp2_with fail;go_ret2;exact ⟨.inl ⟨HU.out,rfl⟩,hbW.trans (hbe2.mono (by omega))⟩
      ·have hk1 : 0 < k:=by omega
       have hq : ((k : Int) == 0) = false:=beq_eq_false_iff_ne.2 (by omega);have hJ:=HJ.out hk1;have HJ2:=Lh (Tt.joinL_next _ k _ _ bl HPM.out hJ.1);have HO:=Lh hJ.2;clear hJ hk0;have hz1 : (1 : Int) <= (p.size : Int):=by omega
       obtain ⟨i0,hi,hz0,hz2,hz3⟩:=info_parts infoByte;have hps : p.size = (p.extract 1 p.size).size + 1:=by rw [bs_extract_size p 1 p.size (xc _)];omega
       have HPS2:=Lh hps;have hps3 : (p.extract 1 p.size).size + 1 <= p.size:=by omega
       clear hps;rcases htests with h1 | ⟨h1,h2⟩
       all_goals
        go_wp2_with (at_builtin;refine Lib.wpList_append_own_string _ rfl (.tmp 40) (.tmp 42) 145 9 rfl (w.heap.size + 1) 5 i0 Tryz.underlying145 Tryz.underlying9 hi hz0 hz2 hz3 _ _ _ rfl hbyt2 (p.extract 1 p.size) rfl (by unfold maxLen;omega) (by omega) (by omega) ?_);intro v' w3 hbyt3 hgrow _;have hown3:=hown2.kept hgrow (rows_apart hown2 hbyt2);have hbe3 : Below (w.heap.size + 1) W w3:=hbe2.grown hgrow (by omega) (fun k hk => (hbyt2.lt k hk).1);have hbyt4 : w3.ownsRow (w.heap.size + 1) 5 1 v' (bl ++ p.data.toList.tail).length (Lib.byteCells (bl ++ p.data.toList.tail)):=by
         have e1 : (p.extract 1 p.size).data.toList = p.data.toList.tail:=by rw [Lib.extract_to_end];simp
         have e2 : p.size - 1 = p.data.toList.tail.length:=by rw [Lib.size_eq];simp
         rw [xa,Lib.byteCells_append,<- e2,<- e1];exact hbyt3
        clear hgrow hbyt3 hown2 hbyt2 hbe2;go_wp2_with fail;go_roundw
        case rel =>
         refine ⟨k + 1,out,bl ++ p.data.toList.tail,by omega,by go_num,hown3,hbyt4,hbe3,by omega,?_,?_,?_,?_⟩
         ·have e2 : p.data.toList.tail.length + 1 = p.size:=by rw [Lib.size_eq,HCT.out];simp
          rw [xa];omega
         ·intro j q hjj hqq;by_cases e : j = k
          ·subst e;rw [HPP.out] at hqq;cases hqq;exact HCP.out
          ·exact HCL.out j q (by omega) hqq
         ·exact fun h => by omega
         ·intro _;have:=HJ2.out;rw [if_pos HBG.out] at this;exact ⟨this,by have:=HO.out;omega⟩
        case measure => simp [intOf];omega
     ·have hfacts : (p.toList = []) ∨ (∃ (h : 0 < p.size) (c : UInt8),p[0]'h = c /\ p.toList.isEmpty = false /\ ((c.toNat : Int) == 32) = false /\ ((c.toNat : Int) == 9) = false):=by
       cases hct : p.data.toList with
       | nil => exact .inl (by rw [Lib.toList_data,hct])
       | cons c tl =>
        right
        have hp1 : 0 < p.size:=by rw [Lib.size_eq,hct];simp
        refine ⟨hp1,c,?_,by rw [Lib.toList_data,hct];rfl,?_,?_⟩
        ·have:=Lib.data_getElem? p 0 hp1;rw [hct] at this;simpa using this.symm
        ·rw [hct,Tt.begins_cons] at hbg;exact byte_ne c 32 32 rfl (fun e => hbg (by simp [e]))
        ·rw [hct,Tt.begins_cons] at hbg;exact byte_ne c 9 9 rfl (fun e => hbg (by simp [e]))
      have hbg2 : Tt.begins p.data.toList = false:=by simpa using hbg
      have HBG:=Lh hbg2;clear hbg hbg2;obtain ⟨i0,hi,hz0,hz2,hz3⟩:=info_parts infoByte;obtain ⟨i1,hj,hy0,hy2,hy3⟩:=info_parts infoString;by_cases hk0 : k = 0
      ·have hq : ¬ ((0 : Int) < (k : Int)):=by omega
       have H00:=H0.out hk0;have HK0:=Lh hk0;obtain ⟨rfl,rfl,rfl⟩:=H00;have HJ2:=Lh (Tt.joinL_first _ _ (show (ps.map (·.data.toList))[0]? = some p.data.toList by rw [<- HPM.out,HK0.out]));clear hk0;rcases hfacts with h1 | ⟨hp0,c,hx,h1,h2,h3⟩
       all_goals
        go_wp2_with (at_builtin;refine Lib.wpList_append_own_string _ rfl (.tmp 52) (.tmp 53) 145 9 rfl (w.heap.size + 1) 5 i0 Tryz.underlying145 Tryz.underlying9 hi hz0 hz2 hz3 _ 0 [] rfl (xd _ _ _ _) p rfl (by unfold maxLen;omega) (by omega) (by omega) ?_);intro v' w3 hbyt3 hgrow _;have hown3:=hown2.kept hgrow (.inl rfl);have hbe3 : Below (w.heap.size + 1) W w3:=hbe2.grown hgrow (by omega) (fun k hk => by cases hk);have hbyt4 : w3.ownsRow (w.heap.size + 1) 5 1 v' p.data.toList.length (Lib.byteCells p.data.toList):=by
         rw [<- Lib.size_eq];simpa [Lib.strCells_eq] using hbyt3
        clear hgrow hbyt3 hown2 hbyt2 hbe2;go_wp2_with fail;go_roundw
        case rel =>
         refine ⟨k + 1,[],p.data.toList,by omega,by go_num,hown3,hbyt4,hbe3,by simp,by rw [<- Lib.size_eq];omega,?_,fun h => by omega,?_⟩
         ·intro j q hjj hqq;by_cases e : j = k
          ·subst e;rw [HPP.out] at hqq;cases hqq;exact HCP.out
          ·exact HCL.out j q (by omega) hqq
         ·intro _;have:=HJ2.out;rw [HBG.out] at this;rw [HK0.out];exact ⟨by simpa using this,by simp⟩
        case measure => simp [intOf];omega
      ·have hq : ((0 : Int) < (k : Int)):=by omega
       have hJ:=HJ.out (by omega);have HJ2:=Lh (Tt.joinL_next _ k _ _ bl HPM.out hJ.1);have hO:=hJ.2;obtain ⟨v0,hsl,hv0,hvb⟩:=slice_zero hbyt2;have hcv:=string_of_row hbyt2;clear hJ hk0;rcases hfacts with h1 | ⟨hp0,c,hx,h1,h2,h3⟩
       all_goals
        go_wp2_with (at_builtin;refine wpList_append_own _ rfl (.tmp 46) (.tmp 49) 143 rfl (w.heap.size + 1) 9 i1 (.string ⟨#[]⟩) 1 16 Tryz.underlying143 hj hy0 hy2 hy3 rfl (by decide) _ _ _ rfl (hown2.alloc _) ⟨w2.heap.size,0,none⟩ 1 1 [.string ⟨bl.toArray⟩] rfl rfl (cell_one _ _ _) (by intro u hu;simp at hu;subst hu;rfl) (by unfold maxLen;omega) (by omega) (by simp;omega) ?_);intro v' w3 hown3 hgrow _;have hbyt3:=(hbyt2.alloc (.cells #[.string ⟨bl.toArray⟩] 9)).kept hgrow (rows_apart' hown2 hbyt2);have hbe3 : Below (w.heap.size + 1) W w3:=(hbe2.alloc (by omega) _).grown hgrow (by simp;omega) (fun k hk => (hown2.lt k hk).1);have hsz3:=hbe3.size;have hbyt5:=hv0 w3 hbyt3;clear hgrow hown2 hbyt2 hbe2 hcv;go_wp2_with (at_builtin;refine Lib.wpList_append_own_string _ rfl (.tmp 52) (.tmp 53) 145 9 rfl (w.heap.size + 1) 5 i0 Tryz.underlying145 Tryz.underlying9 hi hz0 hz2 hz3 _ 0 [] rfl hbyt5 p rfl (by unfold maxLen;omega) (by omega) (by omega) ?_);intro v2 w4 hbyt6 hgrow _;have hown4:=hown3.kept hgrow (rows_apart hown3 hbyt3);have hbe4 : Below (w.heap.size + 1) W w4:=hbe3.grown hgrow (by omega) (fun k hk => (hbyt3.lt k hk).1);have hbyt7 : w4.ownsRow (w.heap.size + 1) 5 1 v2 p.data.toList.length (Lib.byteCells p.data.toList):=by
         rw [<- Lib.size_eq];simpa [Lib.strCells_eq] using hbyt6
        clear hgrow hbyt6 hown3 hbyt3 hbyt5 hbe3 hsl hv0 hvb;go_wp2_with fail;go_roundw
        case rel =>
         refine ⟨k + 1,out ++ [⟨bl.toArray⟩],p.data.toList,by omega,by go_num,by simpa using hown4,hbyt7,hbe4,by simp;omega,by rw [<- Lib.size_eq];omega,?_,fun h => by omega,?_⟩
         ·intro j q hjj hqq;by_cases e : j = k
          ·subst e;rw [HPP.out] at hqq;cases hqq;exact HCP.out
          ·exact HCL.out j q (by omega) hqq
         ·intro _;have:=HJ2.out;rw [HBG.out] at this;exact ⟨by simpa using this,by simp;omega⟩
        case measure => simp [intOf];omega
    ·have HD:=Lh (show (!decide (Tt.Clean p.data.toList)) = true by simp [hcl]);have HU:=Lh (Tt.unf_not _ _ HSP.out k p.data.toList (by rw [<- HPS.out];exact HPM.out) hcl);clear hcl;go_wp2_with fail;refine (containsAny_any _ rfl p (by omega) _).mono ?_;rintro e w2 ⟨rfl,hb2⟩;rw [HD.out];go_wp2_with fail;go_ret2;exact ⟨.inl ⟨HU.out,rfl⟩,(hbW.trans (hbe.mono (by omega))).trans (hb2.mono (by omega))⟩
   ·have hk1 : 0 < k:=by omega
    have hJ:=HJ.out hk1;have hcv:=string_of_row hbyt;have hO:=hJ.2;have hke : k = ps.length:=by omega
    have HK:=Lh hke;have HU:=Lh (Tt.unf_all _ _ HSP.out (by
     intro j q hq;rw [<- HPS.out,xf] at hq;obtain ⟨x,hx,rfl⟩:=Option.map_eq_some_iff.1 hq;exact HCL.out j x (by rw [HK.out];exact (xb.1 hx).1) hx))
    have HJ3:=Lh hJ.1;clear hJ hke;obtain ⟨i1,hj,hy0,hy2,hy3⟩:=info_parts infoString;go_wp2_with (at_builtin;refine wpList_append_own _ rfl (.tmp 56) (.tmp 59) 143 rfl (w.heap.size + 1) 9 i1 (.string ⟨#[]⟩) 1 16 Tryz.underlying143 hj hy0 hy2 hy3 rfl (by decide) _ _ _ rfl (hown.alloc _) ⟨wr.heap.size,0,none⟩ 1 1 [.string ⟨bl.toArray⟩] rfl rfl (cell_one _ _ _) (by intro u hu;simp at hu;subst hu;rfl) (by unfold maxLen;omega) (by omega) (by simp;omega) ?_);intro v' w3 hown3 hgrow _;have hbe3 : Below (w.heap.size + 1) W w3:=(hbe.alloc (by omega) _).grown hgrow (by simp;omega) (fun k hk => (hown.lt k hk).1);obtain ⟨g,cap,hv,hlc⟩ : ∃ g cap,v' = .slice (some ⟨g,0,none⟩) (out.length + 1) cap /\ out.length + 1 <= cap:=by
     rcases hown3.2 with ⟨_,h0⟩ | ⟨g,cap,cur,hv,_,_,hlc,_⟩
     ·omega
     ·exact ⟨g,cap,hv,hlc⟩
    have HLC:=Lh hlc;rw [hv] at hown3 ⊢;have HR:=Lh hown3;clear hgrow hown3 hown hbyt hbe hcv hv hlc;go_wp2_with fail;go_ret2;refine ⟨.inr ⟨g,cap,out ++ [⟨bl.toArray⟩],?_,?_,?_,?_,?_,?_,?_,?_⟩,hbW.trans (hbe3.mono (by omega))⟩
    ·rw [HU.out,<- HPS.out];have:=HJ3.out;rw [List.take_of_length_le (by rw [xl,HK.out];exact xc _)] at this;rw [this];simp
    ·simp
    ·intro j x hx;refine ⟨_,rfl,?_⟩;exact HR.out.cells (g:=g) rfl j (.string x) (by
      have : (out ++ [(⟨bl.toArray⟩ : ByteArray)]).map Value.string = out.map Value.string ++ [.string ⟨bl.toArray⟩]:=by simp
      rw [<- this,xf,hx];rfl)
    ·have:=(HR.out.lt g rfl).1;omega
    ·exact (HR.out.lt g rfl).2
    ·have hlc:=HLC.out;simpa using hlc
    ·rw [<- Lib.size_eq];simp;omega
    ·rcases HR.out.2 with ⟨_,h0⟩ | ⟨g',cap',cur,hv,_,hgb,_⟩
     ·omega
     ·cases hv;exact ⟨_,_,hgb⟩
 ·have hsf : Lib.hasSuffix s.data.toList [13,10] = false:=by simpa using hsuf
  have HU:=Lh (Tt.unf_no_end _ hsf);have HSF:=Lh hsf;clear hsuf hsf;go_enter Tryz.func108,Tryz.ntmps108;go_wp2_with fail;refine (Tryz.strings_CutSuffix _ _ _ (by omega)).mono ?_;rintro e w' ⟨rfl,hw⟩;rw [hw];clear hw w';rw [crlf_str,HSF.out];go_wp2_with fail;go_ret2;exact ⟨.inl ⟨HU.out,rfl⟩,Below.refl _ _⟩
end Go.Proofs.YtcomifbfldoeiaaGreatDoor
