/- Plain facts on identifiers of events, and on decimal numbers. No program in sight. Condition: none. Identifiers of events: contracts of feed.right, timetableref40.right and decimal. Codes and labels: contracts of timetableref03.Valid and of both label functions; of timetableref40.right. Labels and identifiers: contracts of both label functions and of timetableref40.right. Plain facts on events and feeds: what is valid. No program in sight. Condition: none. timetableref40.right: its contract. Events in memory; feed.check and timetableref40.faultBehind: their contracts. Blocks and rows in memory: what a store, an append and a draw of the dice leave as it was. No function of the program in sight. Condition: none. The feed's buffer: put appends one line. The lines of a feed without events, and that such a feed is valid. feed.Format of a feed without events. feed's parser: see, take, number; DeleteFunc where nothing is deleted. feed.Parse of the text of a feed without events. Feeds in memory; feed.Valid and timetableref40.Valid: their contracts. -/
import Derived.Lib.ItoaNum
import Derived.Lib.IndexMore
import Derived.Lib.IndexLaws
import Derived.Lib.IndexBytes
import Derived.Test.YtageielcdebjlaaGreatDoorPk2
import Derived.Test.YtageielcdebjlaaGreatDoorPk1
import Derived.Deep.RegionHeld3
import Derived.Maps.AppendAt
import Derived.Deep.AppendLies
import Derived.Deep.RegionLaw
import Derived.Deep.LoopGhost
import Derived.WalkLawsBesides
set_option maxRecDepth 100000
set_option maxHeartbeats 40000000
-- Uid
namespace Tt
open Go.Lib (decDigits cut index indexByte)
theorem decDigits_digit : ∀ (k n : Nat),n <= k -> ∀ c ∈ decDigits n,48 <= c.toNat /\ c.toNat <= 57
 | 0,n,h,c,hc => by
  rw [Go.Lib.decDigits_one (by omega),List.mem_singleton] at hc;subst hc;rw [show n = 0 by omega];decide
 | k + 1,n,h,c,hc => by
  rw [decDigits.eq_def] at hc;split at hc
  ·rename_i h2
   rw [List.mem_singleton] at hc;subst hc;rw [UInt8.toNat_ofNat_of_lt' (show 48 + n < UInt8.size by show 48 + n < 256;omega)];omega
  ·rename_i h2
   rcases List.mem_append.1 hc with h3 | h3
   ·exact decDigits_digit k (n / 10) (by omega) c h3
   ·rw [List.mem_singleton] at h3;subst h3;have : n % 10 < 10:=Nat.mod_lt _ (by decide);rw [UInt8.toNat_ofNat_of_lt' (show 48 + n % 10 < UInt8.size by show 48 + n % 10 < 256;omega)];omega
def numFrom (n : List UInt8) (w : Nat) : Bool:=decide (∃ j : Nat,j < 21 /\ w <= j /\ n = decDigits j)
theorem numFrom_end (n : List UInt8) : numFrom n 21 = false:=by
 unfold numFrom;rw [decide_eq_false_iff_not];rintro ⟨j,h1,h2,_⟩;omega
theorem numFrom_hit (n : List UInt8) (w : Nat) (h1 : w <= 20) (h : n = decDigits w) : numFrom n w = true:=by
 unfold numFrom;rw [decide_eq_true_iff];exact ⟨w,by omega,Nat.le_refl _,h⟩
theorem numFrom_step (n : List UInt8) (w : Nat) (h : n ≠ decDigits w) : numFrom n w = numFrom n (w + 1):=by
 unfold numFrom;congr 1
 apply propext
 constructor
 ·rintro ⟨j,h1,h2,h3⟩;rcases Nat.lt_or_ge w j with h4 | h4
  ·exact ⟨j,h1,h4,h3⟩
  ·obtain rfl : w = j:=by omega
   exact absurd h3 h
 ·rintro ⟨j,h1,h2,h3⟩;exact ⟨j,h1,by omega,h3⟩
theorem numFrom_no (n : List UInt8) (w : Nat) (h : numFrom n w = true) : (64 : UInt8) ∉ n:=by
 unfold numFrom at h;rw [decide_eq_true_iff] at h;obtain ⟨j,_,_,rfl⟩:=h;intro h64;have:=decDigits_digit j j (Nat.le_refl _) _ h64;have h2 : (64 : UInt8).toNat = 64:=rfl;omega
theorem cut_first (a b : List UInt8) (h : (64 : UInt8) ∉ a) : cut (a ++ 64 :: b) [64] = (a,b,true):=by
 unfold Go.Lib.cut;rw [Go.Lib.index_one];have hg : (a ++ 64 :: b)[a.length]? = some 64:=by simp
 by_cases h0 : 0 <= indexByte (a ++ 64 :: b) 64
 ·obtain ⟨o,ho⟩ : ∃ o : Nat,indexByte (a ++ 64 :: b) 64 = o:=⟨(indexByte (a ++ 64 :: b) 64).toNat,by omega⟩
  obtain ⟨h1,h2⟩:=Go.Lib.indexByte_some ho;have : o = a.length:=by
   rcases Nat.lt_trichotomy o a.length with h3 | h3 | h3
   ·rw [List.getElem?_append_left h3] at h1;exact absurd (List.mem_of_getElem? h1) h
   ·exact h3
   ·exact absurd hg (h2 _ h3)
  rw [if_pos h0,ho,this];simp
 ·exact absurd hg (Go.Lib.indexByte_none (by have:=Go.Lib.indexByte_ge (a ++ 64 :: b) 64;omega) _)
def rightP (p : List UInt8 -> Bool) (l : List UInt8) : Bool:=(cut l [64]).2.2 && p (cut l [64]).1 && numFrom (cut l [64]).2.1 1
theorem first_split : ∀ (a : List UInt8),(64 : UInt8) ∈ a -> ∃ a1 a2,a = a1 ++ 64 :: a2 /\ (64 : UInt8) ∉ a1
 | [],h => by cases h
 | c :: t,h => by
  by_cases hc : c = 64
  ·subst hc;exact ⟨[],t,rfl,by simp⟩
  ·rcases List.mem_cons.1 h with e | e
   ·exact absurd e.symm hc
   ·obtain ⟨a1,a2,h1,h2⟩:=first_split t e;exact ⟨c :: a1,a2,by rw [h1];rfl,by simp [Ne.symm hc,h2]⟩
theorem rightP_last (p : List UInt8 -> Bool) (hp : ∀ a,p a = true -> (64 : UInt8) ∉ a) (a b : List UInt8) : rightP p (a ++ 64 :: b) = (p a && numFrom b 1):=by
 by_cases ha : (64 : UInt8) ∈ a
 ·obtain ⟨a1,a2,rfl,h1⟩:=first_split a ha;have h2 : p (a1 ++ 64 :: a2) = false:=by
   cases h : p (a1 ++ 64 :: a2) with
   | false => rfl
   | true => exact absurd (by simp) (hp _ h)
  have h3 : numFrom (a2 ++ 64 :: b) 1 = false:=by
   cases h : numFrom (a2 ++ 64 :: b) 1 with
   | false => rfl
   | true => exact absurd (by simp) (numFrom_no _ _ h)
  unfold rightP;rw [List.append_assoc,List.cons_append,cut_first _ _ h1,h2];simp [h3]
 ·unfold rightP;rw [cut_first _ _ ha];simp
end Tt
-- UidW
namespace Go.Proofs.YtageielcdebjlaaGreatDoor
open Go.RowKit
theorem code_no_at (a : List UInt8) (h : Tt.code a = true) : (64 : UInt8) ∉ a:=by
 intro hm;cases a with
 | nil => cases hm
 | cons c t =>
  unfold Tt.code at h;simp only [Bool.and_eq_true] at h;obtain ⟨⟨_,h1⟩,h2⟩:=h;rcases List.mem_cons.1 hm with e | e
  ·subst e;exact absurd h1 (by decide)
  ·unfold Tt.codeTail at h2;have:=List.all_eq_true.1 h2 64 e;exact absurd this (by decide)
def rightB (l : List UInt8) : Bool:=Tt.rightP Tt.code l
theorem of_data {s : ByteArray} {l : List UInt8} (h : s.data.toList = l) : s = ⟨l.toArray⟩:=by rw [<- h,Lib.mk_data]
theorem cut248 (s : ByteArray) (w : World) (hs : s.size <= 4611686018427387904) :
  Calls Tryz.prog 248 #[.string s,.string ⟨#[64]⟩] w fun e w' => e = .returned (.tuple #[.string ⟨(Lib.cut s.data.toList [64]).1.toArray⟩,.string ⟨(Lib.cut s.data.toList [64]).2.1.toArray⟩,.bool (Lib.cut s.data.toList [64]).2.2]) /\ ∃ n,w' = w.drewN n:=by
 have HI:=Lh (show Lib.index s.data.toList [64] = Lib.indexByte s.data.toList 64 from Lib.index_one _ _);have hge:=Lib.indexByte_ge s.data.toList 64;by_cases h0 : 0 <= Lib.indexByte s.data.toList 64
 ·obtain ⟨o,ho⟩ : ∃ o : Nat,Lib.indexByte s.data.toList 64 = o:=⟨(Lib.indexByte s.data.toList 64).toNat,by omega⟩
  have hlt : o < s.size:=by
   have:=List.getElem?_eq_some_iff.1 (Lib.indexByte_some ho).1;rw [Lib.size_eq];exact this.1
  have HC:=Lh (show Lib.cut s.data.toList [64] = (s.data.toList.take o,s.data.toList.drop (o + 1),true) by
   unfold Lib.cut;rw [HI.out,if_pos h0,ho];rfl)
  have HO:=Lh ho;have HE1:=Lh (of_data (Lib.extract_from_zero s o));have HE2:=Lh (of_data (Lib.extract_to_end s (o + 1)));clear h0 hge ho HI;go_enter Tryz.func248,Tryz.ntmps248;go_wp2_with fail;refine (Tryz.stringslite_Index_one s 64 _).mono ?_;rintro e w1 ⟨rfl,hw⟩;rw [hw,HO.out];clear hw w1;have g1 : (0 : Int) <= (o : Int):=by omega
  have g2 : (o : Int) <= (s.size : Int):=by omega
  have g3 : IntKind.i64.wrap ((o : Int) + 1) = (o : Int) + 1:=by rw [IntKind.wrap_i64];omega
  have g4 : ((o : Int) + 1).toNat = o + 1:=by omega
  have g5 : (o : Int) + 1 <= (s.size : Int):=by omega
  have g6 : (0 : Int) <= (o : Int) + 1:=by omega
  go_wp2_with fail;go_quiet (fail)
  clear g1 g2 g3 g4 g5 g6;go_wp2_with fail;refine bodyPost_ret (v:=.tuple #[.string (s.extract 0 o),.string (s.extract (o + 1) s.size),.bool true]) (by simp [results,Tryz.results248,go_sem]) rfl ?_;refine ⟨?_,_,rfl⟩;rw [HC.out,HE1.out,HE2.out]
 ·have HC:=Lh (show Lib.cut s.data.toList [64] = (s.data.toList,[],false) by
   unfold Lib.cut;rw [HI.out,if_neg h0])
  have HO:=Lh (show Lib.indexByte s.data.toList 64 = -1 by omega);clear h0 hge HI;go_enter Tryz.func248,Tryz.ntmps248;go_wp2_with fail;refine (Tryz.stringslite_Index_one s 64 _).mono ?_;rintro e w1 ⟨rfl,hw⟩;rw [hw,HO.out];clear hw w1;go_wp2_with fail;refine bodyPost_ret (v:=.tuple #[.string s,.string ⟨#[]⟩,.bool false]) (by simp [results,Tryz.results248,go_sem]) rfl ?_;refine ⟨?_,0,rfl⟩;rw [HC.out,Lib.mk_data]
theorem cut166 (s : ByteArray) (w : World) (hs : s.size <= 4611686018427387904) :
  Calls Tryz.prog 166 #[.string s,.string ⟨#[64]⟩] w fun e w' => e = .returned (.tuple #[.string ⟨(Lib.cut s.data.toList [64]).1.toArray⟩,.string ⟨(Lib.cut s.data.toList [64]).2.1.toArray⟩,.bool (Lib.cut s.data.toList [64]).2.2]) /\ ∃ n,w' = w.drewN n:=by
 go_enter Tryz.func166,Tryz.ntmps166;go_wp2_with fail;refine (cut248 s w hs).mono ?_;rintro e w1 ⟨rfl,n,hw⟩;rw [hw];clear hw w1;go_wp2_with fail;exact bodyPost_ret (v:=.tuple #[.string ⟨(Lib.cut s.data.toList [64]).1.toArray⟩,.string ⟨(Lib.cut s.data.toList [64]).2.1.toArray⟩,.bool (Lib.cut s.data.toList [64]).2.2]) (by simp [results,Tryz.results166,go_sem]) rfl ⟨rfl,_,rfl⟩
theorem right95 (s : ByteArray) (w : World) (hs : s.size <= 4611686018427387904) :
  Calls Tryz.prog 95 #[.string s] w fun e w' => e = .returned (.bool (rightB s.data.toList)) /\ Below w.heap.size w w':=by
 have HC:=Lh (cut166 s w hs);have HR:=Lh (show rightB s.data.toList = ((Lib.cut s.data.toList [64]).2.2 && Tt.code (Lib.cut s.data.toList [64]).1 && Tt.numFrom (Lib.cut s.data.toList [64]).2.1 1) from rfl);obtain ⟨a,ha⟩ : ∃ a,a = (Lib.cut s.data.toList [64]).1:=⟨_,rfl⟩
 obtain ⟨b,hb⟩ : ∃ b,b = (Lib.cut s.data.toList [64]).2.1:=⟨_,rfl⟩
 obtain ⟨f,hf⟩ : ∃ f,f = (Lib.cut s.data.toList [64]).2.2:=⟨_,rfl⟩
 have HA:=Lh ha;have HB:=Lh hb;have HF:=Lh hf;rw [<- ha,<- hb,<- hf] at HR;clear ha hb hf;go_enter Tryz.func95,Tryz.ntmps95;go_wp2_with fail;refine HC.out.mono ?_;rintro e w1 ⟨rfl,q,hw⟩;rw [hw];clear hw w1;rw [<- HA.out,<- HB.out,<- HF.out];cases hf : f
 ·have HE:=Lh (show rightB s.data.toList = false by rw [HR.out,hf];rfl);go_wp2_with fail;go_ret;exact ⟨ret_bool HE.out.symm,below_drew (Below.refl _ _)⟩
 ·go_wp2_with fail;refine (code_any ⟨a.toArray⟩ _).mono ?_;rintro e w1 ⟨rfl,hw⟩;rw [hw];clear hw w1;rw [show (⟨a.toArray⟩ : ByteArray).data.toList = a from rfl];cases hc : Tt.code a
  ·have HE:=Lh (show rightB s.data.toList = false by rw [HR.out,hf,hc];rfl);clear hf hc;go_wp2_with fail;go_ret;exact ⟨ret_bool HE.out.symm,below_drew (Below.refl _ _)⟩
  ·have HE:=Lh (show rightB s.data.toList = Tt.numFrom b 1 by rw [HR.out,hf,hc];rfl);clear hf hc;go_wp2_with fail;obtain ⟨w2,hw2,hB2,_,_⟩:=redrew w q;have hbe:=hB2 w.heap.size;rw [<- hw2];clear hw2 hB2;go_loopw [6] (fun iv wr => ∃ k : Nat,iv = .int .i64 k /\ 1 <= k /\ k <= 21 /\ wr = w2 /\ Hid (Tt.numFrom b 1 = Tt.numFrom b k)) (fun iv _ => 21 - (intOf iv).toNat)
   case atStart => exact ⟨1,rfl,by omega,by omega,rfl,rfl⟩
   case round =>
    obtain ⟨k,rfl,hk1,hk2,hw,HK⟩:=hrel;subst hw;by_cases hlt : k <= 20
    ·have hki : (k : Int) <= 20:=by omega
     go_wp2_with fail;refine (Tryz.strconv_Itoa_small k (by omega) _).mono ?_;rintro e w1 ⟨rfl,hw⟩;rw [hw];clear hw w1;by_cases he : b = Lib.decDigits k
     ·have ht : (b == Lib.decDigits k) = true:=beq_iff_eq.2 he;have HT:=Lh (HE.out.trans (HK.out.trans (Tt.numFrom_hit b k hlt he)));clear he;go_wp2_with fail;go_ret;exact ⟨ret_bool HT.out.symm,hbe⟩
     ·have ht : (b == Lib.decDigits k) = false:=beq_eq_false_iff_ne.2 he;have HT:=Lh (HK.out.trans (Tt.numFrom_step b k he));clear he;go_wp2_with fail;go_roundw
      case rel => exact ⟨k + 1,by go_num,by omega,by omega,by first | rfl | trivial,HT.out⟩
      case measure => simp [intOf];omega
    ·have hki : ¬ (k : Int) <= 20:=by omega
     have HT:=Lh (show rightB s.data.toList = false from HE.out.trans (HK.out.trans (by rw [show k = 21 by omega];exact Tt.numFrom_end b)));go_wp2_with fail;go_ret;exact ⟨ret_bool HT.out.symm,hbe⟩
theorem size_mk (l : List UInt8) : (⟨l.toArray⟩ : ByteArray).size = l.length:=by rw [Lib.size_eq]
end Go.Proofs.YtageielcdebjlaaGreatDoor
-- UidW2
namespace Tt
def labC (c : UInt8) : Bool:=c == 10 || (decide (32 <= c.toNat) && decide (c.toNat <= 126))
def labB (l : List UInt8) : Bool:=l.all labC && decide (l.length <= 64)
theorem all_step (p : UInt8 -> Bool) (l : List UInt8) (k : Nat) (c : UInt8) (h : l[k]? = some c) : (l.drop k).all p = (p c && (l.drop (k + 1)).all p):=by
 obtain ⟨g1,g2⟩:=List.getElem?_eq_some_iff.1 h;rw [List.drop_eq_getElem_cons g1,g2,List.all_cons]
theorem all_end (p : UInt8 -> Bool) (l : List UInt8) (k : Nat) (h : l.length <= k) : (l.drop k).all p = true:=by rw [List.drop_eq_nil_of_le h];rfl
end Tt
namespace Go.Proofs.YtageielcdebjlaaGreatDoor
open Go.RowKit
end Go.Proofs.YtageielcdebjlaaGreatDoor
-- UidW3
namespace Go.Proofs.YtageielcdebjlaaGreatDoor
open Go.RowKit
theorem lab_kinds (c : UInt8) : (((c.toNat : Int) != 10) = false /\ c.toNat = 10 /\ Hid (Tt.labC c = true)) ∨
  (((c.toNat : Int) != 10) = true /\ (c.toNat : Int) < 32 /\ Hid (Tt.labC c = false)) ∨
  (((c.toNat : Int) != 10) = true /\ ¬ (c.toNat : Int) < 32 /\ (126 : Int) < c.toNat /\ Hid (Tt.labC c = false)) ∨
  (((c.toNat : Int) != 10) = true /\ ¬ (c.toNat : Int) < 32 /\ ¬ (126 : Int) < c.toNat /\ Hid (Tt.labC c = true)):=by
 by_cases e : c = 10
 ·subst e;exact .inl ⟨rfl,rfl,by show _ = _;rfl⟩
 ·have b1 : ((c.toNat : Int) != 10) = true:=by have:=byte_ne c 10 10 rfl e;simp only [bne,this];rfl
  right
  by_cases h1 : (c.toNat : Int) < 32
  ·refine .inl ⟨b1,h1,?_⟩;show _ = _
   unfold Tt.labC;rw [beq_eq_false_iff_ne.2 e,decide_eq_false (by omega)];rfl
  ·by_cases h2 : (126 : Int) < c.toNat
   ·refine .inr (.inl ⟨b1,h1,h2,?_⟩);show _ = _
    unfold Tt.labC;rw [beq_eq_false_iff_ne.2 e,decide_eq_false (show ¬ c.toNat <= 126 by omega)];simp
   ·refine .inr (.inr ⟨b1,h1,h2,?_⟩);show _ = _
    unfold Tt.labC;rw [decide_eq_true (by omega),decide_eq_true (by omega)];simp
theorem label167 (s : ByteArray) (w : World) (hs : s.size <= 4611686018427387904) : Calls Tryz.prog 167 #[.string s] w fun e w' => e = .returned (.bool (Tt.labB s.data.toList)) /\ Below w.heap.size w w':=by
  have HL:=Lh (Lib.size_eq s);have HB:=Lh (show Tt.labB s.data.toList = ((s.data.toList.drop 0).all Tt.labC && decide ((s.size : Int) <= 64)) by
    unfold Tt.labB;rw [<- HL.out];congr 1;rw [decide_eq_decide];omega)
  obtain ⟨cap,W,hconv,hb0,hsz,hcell⟩:=bytes_of s w;have HCELL:=Lh hcell;clear hcell;go_enter Tryz.func167,Tryz.ntmps167;go_wp2_with fail;clear hconv;go_loop [8] (fun i => ∃ k : Nat,k <= s.size /\ i = .int .i64 k /\ Hid ((s.data.toList.drop 0).all Tt.labC = (s.data.toList.drop k).all Tt.labC)) (fun i => s.size - (intOf i).toNat)
  case atStart => exact ⟨0,Nat.zero_le _,rfl,rfl⟩
  case round =>
    obtain ⟨k,hk,rfl,HK⟩:=hrel;by_cases hlt : k < s.size
    · obtain ⟨c,hcl⟩ : ∃ c,s.data.toList[k]? = some c:=⟨_,List.getElem?_eq_getElem (by rw [<- HL.out];exact hlt)⟩
      have hcc:=HCELL.out k c hcl;have HS:=Lh (HK.out.trans (Tt.all_step _ _ _ _ hcl));clear hcl;have hki : (k : Int) < (s.size : Int):=by omega
      have hcb:=UInt8.toNat_lt c;rcases lab_kinds c with ⟨d1,d2,DS⟩ | ⟨d1,d2,DS⟩ | ⟨d1,d2,d3,DS⟩ | ⟨d1,d2,d3,DS⟩
      all_goals
        go_wp2_with fail;first
          | (go_ret
             exact ⟨ret_bool (by rw [HB.out,HS.out,DS.out];rfl),hb0⟩)
          | (go_round
             case rel => exact ⟨k + 1,by omega,by go_num,by show _ = _;rw [HS.out,DS.out];rfl⟩
             case measure => simp [intOf];omega)
    · have hki : ¬ (k : Int) < (s.size : Int):=by omega
      go_wp2_with fail;go_ret;exact ⟨ret_bool (by rw [HB.out,HK.out,Tt.all_end _ _ _ (by rw [<- HL.out];omega)];rfl),hb0⟩
end Go.Proofs.YtageielcdebjlaaGreatDoor
-- Ev
namespace Go.Proofs.YtageielcdebjlaaGreatDoor
open Go.RowKit
structure Ev where
 uid : ByteArray
 seq : Int
 canc : Bool
 days : Tt.Ser
 start : Int
 mins : Int
 summ : ByteArray
 loc : ByteArray
def checkV (e : Ev) (v : Int) : Int :=
 if e.seq < 1 ∨ v < e.seq then 3
 else if Tt.serV e.days ≠ 0 then Tt.serV e.days
 else if Tt.serDays e.days = [] then 16
 else if e.start < 0 ∨ 1440 <= e.start ∨ e.mins < 1 ∨ 1440 < e.mins then 14
 else if e.summ.size = 0 ∨ Tt.labB e.summ.data.toList = false ∨ Tt.labB e.loc.data.toList = false then 4
 else 0
def lateU : Option ByteArray -> ByteArray -> Bool
 | none,_ => false
 | some p,u => Op.bytesLess u.toList p.toList || u.toList == p.toList
def evsV (v : Int) : Option ByteArray -> List Ev -> Int
 | _,[] => 0
 | p,e :: r => if rightB e.uid.data.toList = false then 4 else if lateU p e.uid = true then 63 else if checkV e v ≠ 0 then checkV e v else evsV v (some e.uid) r
def feedV (n : ByteArray) (v : Int) (es : List Ev) : Int :=
 if Tt.code n.data.toList = false then 10
 else if v < 0 ∨ 64 < v then 3
 else if 256 < (es.length : Int) then 2
 else evsV v none es
def prevU (es : List Ev) (k : Nat) : Option ByteArray:=if k = 0 then none else es[k - 1]?.map (·.uid)
theorem prevU_succ (es : List Ev) (k : Nat) (e : Ev) (h : es[k]? = some e) : prevU es (k + 1) = some e.uid:=by unfold prevU;simp [h]
def evsF (v : Int) (es : List Ev) (k : Nat) : Int:=evsV v (prevU es k) (es.drop k)
theorem evsF_cons (v : Int) (es : List Ev) (k : Nat) (e : Ev) (h : es[k]? = some e) :
  evsF v es k = if rightB e.uid.data.toList = false then 4 else if lateU (prevU es k) e.uid = true then 63 else if checkV e v ≠ 0 then checkV e v else evsF v es (k + 1):=by
 obtain ⟨g1,g2⟩:=List.getElem?_eq_some_iff.1 h;unfold evsF;rw [List.drop_eq_getElem_cons g1,g2,evsV,prevU_succ es k e h]
theorem evsF_end (v : Int) (es : List Ev) (k : Nat) (h : es.length <= k) : evsF v es k = 0:=by
 unfold evsF;rw [List.drop_eq_nil_of_le h];unfold evsV;rfl
end Go.Proofs.YtageielcdebjlaaGreatDoor
-- UidW4
namespace Go.Proofs.YtageielcdebjlaaGreatDoor
open Go.RowKit
def evCells (e : Ev) (v v' : Value) : Array Value:=#[.string e.uid,.int .i64 e.seq,.bool e.canc,.int .i64 e.days.first,.int .i64 e.days.last,.int .i64 e.days.every,.int .i64 e.days.wd,v,v',.int .i64 e.start,.int .i64 e.mins,.string e.summ,.string e.loc]
def evVal (e : Ev) (v v' : Value) : Value:=.agg (evCells e v v')
def EvBox (b : Nat) (e : Ev) (v v' : Value) (w : World) : Prop:=w.heap[b]? = some (.cells (evCells e v v') 82 (0,0))
theorem EvBox.lt {b : Nat} {e : Ev} {v v' : Value} {w : World} (h : EvBox b e v v' w) : b < w.heap.size:=(Array.getElem?_eq_some_iff.1 h).1
theorem EvBox.block {b : Nat} {e : Ev} {v v' : Value} {w w' : World} (h : EvBox b e v v' w) (hw : w'.heap[b]? = w.heap[b]?) : EvBox b e v v' w':=hw.trans h
structure EvC (b p : Nat) (e : Ev) (v v' : Value) (w : World) : Prop where
 c0 : w.cell? ⟨b,p,none⟩ = some (.string e.uid)
 c1 : w.cell? ⟨b,p + 1,none⟩ = some (.int .i64 e.seq)
 c2 : w.cell? ⟨b,p + 2,none⟩ = some (.bool e.canc)
 c3 : w.cell? ⟨b,p + 3,none⟩ = some (.int .i64 e.days.first)
 c4 : w.cell? ⟨b,p + 4,none⟩ = some (.int .i64 e.days.last)
 c5 : w.cell? ⟨b,p + 5,none⟩ = some (.int .i64 e.days.every)
 c6 : w.cell? ⟨b,p + 6,none⟩ = some (.int .i64 e.days.wd)
 c7 : w.cell? ⟨b,p + 7,none⟩ = some v
 c8 : w.cell? ⟨b,p + 8,none⟩ = some v'
 c9 : w.cell? ⟨b,p + 9,none⟩ = some (.int .i64 e.start)
 c10 : w.cell? ⟨b,p + 10,none⟩ = some (.int .i64 e.mins)
 c11 : w.cell? ⟨b,p + 11,none⟩ = some (.string e.summ)
 c12 : w.cell? ⟨b,p + 12,none⟩ = some (.string e.loc)
theorem EvBox.c {b : Nat} {e : Ev} {v v' : Value} {w : World} (h : EvBox b e v v' w) : EvC b 0 e v v' w:=by
 constructor <;> (rw [Lib.cell_of_heap h];rfl)
theorem ownsRow_len {w : World} {B : Nat} {e : TypeId} {k : Nat} {v : Value} {n : Nat} {xs : List Value} (h : w.ownsRow B e k v n xs) : ∃ p c,v = .slice p n c:=by
 rcases h.2 with ⟨rfl,h0⟩ | ⟨g,cap,cur,rfl,_⟩
 ·subst h0;exact ⟨_,_,rfl⟩
 ·exact ⟨_,_,rfl⟩
theorem checkV_range (e : Ev) (v : Int) (h : e.seq < 1 ∨ v < e.seq) : checkV e v = 3:=by unfold checkV;rw [if_pos h]
theorem checkV_ser (e : Ev) (v : Int) (h : ¬ (e.seq < 1 ∨ v < e.seq)) (h2 : Tt.serV e.days ≠ 0) : checkV e v = Tt.serV e.days:=by unfold checkV;rw [if_neg h,if_pos h2]
theorem checkV_empty (e : Ev) (v : Int) (h : ¬ (e.seq < 1 ∨ v < e.seq)) (h2 : Tt.serV e.days = 0) (h3 : Tt.serDays e.days = []) : checkV e v = 16:=by unfold checkV;rw [if_neg h,if_neg (by simp [h2]),if_pos h3]
theorem checkV_time (e : Ev) (v : Int) (h : ¬ (e.seq < 1 ∨ v < e.seq)) (h2 : Tt.serV e.days = 0) (h3 : Tt.serDays e.days ≠ []) :
  checkV e v = if e.start < 0 ∨ 1440 <= e.start ∨ e.mins < 1 ∨ 1440 < e.mins then 14
   else if e.summ.size = 0 ∨ Tt.labB e.summ.data.toList = false ∨ Tt.labB e.loc.data.toList = false then 4 else 0:=by unfold checkV;rw [if_neg h,if_neg (by simp [h2]),if_neg h3]
theorem nonempty_list (x : ByteArray) (h : x.size ≠ 0) : x.toList.isEmpty = false:=by
 rw [Lib.toList_data];cases hx : x.data.toList with
 | nil => exact absurd (by rw [Lib.size_eq,hx];rfl) h
 | cons c t => rfl
theorem empty_list (x : ByteArray) (h : x.size = 0) : x.toList = []:=by
 rw [Lib.toList_data];exact List.eq_nil_of_length_eq_zero (by rw [<- Lib.size_eq];exact h)
theorem check96 (e : Ev) (v : Int) (B : Nat) (w : World) (ao ao' : Option Addr) (c c' : Nat) (hB : B <= w.heap.size) (hI : Ints B w ao e.days.ex) (hI' : Ints B w ao' e.days.xt) (hn : e.days.ex.length <= 4611686018427387903) (hn2 : e.days.xt.length <= 4611686018427387903) (hs : e.summ.size <= 4611686018427387904) (hl : e.loc.size <= 4611686018427387904) :
  Calls Tryz.prog 96 #[evVal e (.slice ao e.days.ex.length c) (.slice ao' e.days.xt.length c'),.int .i64 v] w fun x w' => x = .returned (.int .i64 (checkV e v)) /\ Below w.heap.size w w':=by
 have HI:=Lh hI;have HI':=Lh hI';have S0 : EvBox w.heap.size e (.slice ao e.days.ex.length c) (.slice ao' e.days.xt.length c') (w.alloc (.cells (evCells e (.slice ao e.days.ex.length c) (.slice ao' e.days.xt.length c')) 82)):=heap_alloc_new w _;have HS0:=Lh S0;clear hI hI' S0;unfold evCells at HS0;unfold evVal evCells;by_cases h1 : e.seq < 1 ∨ v < e.seq
 ·have HE:=Lh (checkV_range e v h1);rcases h1 with h1 | h1
  ·go_enter Tryz.func96,Tryz.ntmps96;go_wp2_with fail;go_ret;exact ⟨ret_int HE.out.symm,below_box _ _⟩
  ·by_cases h2 : e.seq < 1
   all_goals
    go_enter Tryz.func96,Tryz.ntmps96;go_wp2_with fail;go_ret;exact ⟨ret_int HE.out.symm,below_box _ _⟩
 ·have k1 : 1 <= e.seq:=by omega
  have k2 : e.seq <= v:=by omega
  have H1:=Lh h1;clear h1;go_enter Tryz.func96,Tryz.ntmps96;go_wp2_with fail;refine (valid145_any e.days B _ hn hn2 ao ao' c c' (by simp;omega) (HI.out.below ((below_box w _).mono hB)) (HI'.out.below ((below_box w _).mono hB))).mono ?_;rintro x w1 ⟨rfl,hb1⟩;have hbe1:=below_then (below_box w _) hb1;have HA1:=Lh (EvBox.block (e:=e) HS0.out (hb1.block _ (by simp)));clear hb1;by_cases hv : Tt.serV e.days = 0
  ·rw [hv];have HC1:=HA1.out.c;obtain ⟨c0,c1,c2,c3,c4,c5,c6,c7,c8,c9,c10,c11,c12⟩:=HC1;have HV:=Lh hv;clear hv;go_wp2_with fail;refine (days74 e.days B _ hn hn2 ao ao' c c' (Nat.le_trans hB hbe1.size) (HI.out.below (hbe1.mono hB)) (HI'.out.below (hbe1.mono hB))).mono ?_;rintro x w2 ⟨u,rfl,hown,hb2⟩;obtain ⟨q1,q2,hu⟩:=ownsRow_len hown;subst hu;have hbe2:=below_then hbe1 hb2;have HA2:=Lh (HA1.out.block (hb2.block _ HA1.out.lt));clear hb2 hown c0 c1 c2 c3 c4 c5 c6 c7 c8 c9 c10 c11 c12 HA1 hbe1;obtain ⟨c0,c1,c2,c3,c4,c5,c6,c7,c8,c9,c10,c11,c12⟩:=HA2.out.c;by_cases hd : Tt.serDays e.days = []
   ·have HE:=Lh (checkV_empty e v H1.out HV.out hd);have hlen : (Tt.serDays e.days).length = 0:=by rw [hd];rfl
    rw [hlen];clear hd hlen;go_wp2_with fail;go_ret;exact ⟨ret_int HE.out.symm,hbe2⟩
   ·have HE:=Lh (checkV_time e v H1.out HV.out hd);obtain ⟨n,hlen⟩ : ∃ n,(Tt.serDays e.days).length = n + 1:=⟨(Tt.serDays e.days).length - 1,by have:=List.length_pos_iff.2 hd;omega⟩
    rw [hlen];clear hd hlen;by_cases ht : e.start < 0 ∨ 1440 <= e.start ∨ e.mins < 1 ∨ 1440 < e.mins
    ·have HE2:=Lh (HE.out.trans (if_pos ht));clear HE;go_wp2_with fail
     all_goals first
      | (go_ret;exact ⟨ret_int HE2.out.symm,hbe2⟩)
      | (exfalso;omega)
    ·have HE2:=Lh (HE.out.trans (if_neg ht));have t1 : ¬ e.start < 0:=by omega
     have t2 : ¬ 1440 <= e.start:=by omega
     have t3 : ¬ e.mins < 1:=by omega
     have t4 : ¬ 1440 < e.mins:=by omega
     clear HE ht;by_cases hz : e.summ.size = 0
     ·have HE3:=Lh (HE2.out.trans (if_pos (.inl hz)));have hz1:=empty_list _ hz;have hz2 : (!e.summ.toList.isEmpty) = false:=by rw [hz1];rfl
      clear hz;go_wp2_with fail;go_ret;exact ⟨ret_int HE3.out.symm,hbe2⟩
     ·have hz1:=nonempty_list _ hz;have HZ:=Lh hz;clear hz;go_wp2_with fail;refine (label167 e.summ _ hs).mono ?_;rintro x w3 ⟨rfl,hw3⟩;have hbe3:=below_then hbe2 hw3;have HA3:=Lh (HA2.out.block (hw3.block _ HA2.out.lt));clear c0 c1 c2 c3 c4 c5 c6 c7 c8 c9 c10 c11 c12 HA2 hbe2 hw3;obtain ⟨c0,c1,c2,c3,c4,c5,c6,c7,c8,c9,c10,c11,c12⟩:=HA3.out.c;cases hl1 : Tt.labB e.summ.data.toList
      ·have HE3:=Lh (HE2.out.trans (if_pos (.inr (.inl hl1))));clear hl1;go_wp2_with fail;go_ret;exact ⟨ret_int HE3.out.symm,hbe3⟩
      ·have HL1:=Lh hl1;clear hl1;go_wp2_with fail;refine (label167 e.loc _ hl).mono ?_;rintro x w4 ⟨rfl,hw4⟩;have hbe4:=below_then hbe3 hw4;cases hl2 : Tt.labB e.loc.data.toList
       ·have HE3:=Lh (HE2.out.trans (if_pos (.inr (.inr hl2))));clear hl2;go_wp2_with fail;go_ret;exact ⟨ret_int HE3.out.symm,hbe4⟩
       ·have HE3:=Lh (HE2.out.trans (if_neg (by rw [hl2,HL1.out];simp [HZ.out])));clear hl2;go_wp2_with fail;go_ret;exact ⟨ret_int HE3.out.symm,hbe4⟩
  ·have HE:=Lh (checkV_ser e v H1.out hv);have hv2 : (Tt.serV e.days != 0) = true:=by simp [hv]
   clear hv;go_wp2_with fail;go_ret;exact ⟨ret_int HE.out.symm,hbe1⟩
def Blk (g : Nat) (cs : Array Value) (ty : TypeId) (w : World) : Prop:=w.heap[g]? = some (.cells cs ty (0,0))
theorem Blk.lt {g : Nat} {cs : Array Value} {ty : TypeId} {w : World} (h : Blk g cs ty w) : g < w.heap.size:=(Array.getElem?_eq_some_iff.1 h).1
theorem Blk.new (w : World) (cs : Array Value) (ty : TypeId) : Blk w.heap.size cs ty (w.alloc (.cells cs ty)):=heap_alloc_new w _
theorem Blk.alloc {g : Nat} {cs : Array Value} {ty : TypeId} {w : World} (h : Blk g cs ty w) (o : Obj) : Blk g cs ty (w.alloc o):=(Lib.alloc_old w o g h.lt).trans h
theorem Blk.cell {g : Nat} {cs : Array Value} {ty : TypeId} {w : World} (h : Blk g cs ty w) (i : Nat) : w.cell? ⟨g,i,none⟩ = cs[i]?:=by rw [Lib.cell_of_heap h]
theorem Blk.frozen {g : Nat} {cs : Array Value} {ty : TypeId} {w : World} (h : Blk g cs ty w) (i : Nat) : w.frozen? ⟨g,i,none⟩ = false:=by simp [World.frozen?,show w.heap[g]? = _ from h]
theorem Blk.set {g : Nat} {cs : Array Value} {ty : TypeId} {w : World} (h : Blk g cs ty w) (i : Nat) (u : Value) : Blk g (cs.setIfInBounds i u) ty (w.setCell ⟨g,i,none⟩ u):=by
 unfold Blk at h ⊢;simp [World.setCell,Array.getElem?_modify,h]
theorem Blk.set_other {g g' : Nat} {cs : Array Value} {ty : TypeId} {w : World} (h : Blk g cs ty w) (hne : g ≠ g') (i : Nat) (u : Value) : Blk g cs ty (w.setCell ⟨g',i,none⟩ u) :=
 (Below.heap_setCell _ _ _ _ hne).trans h
theorem Blk.only {b g : Nat} {cs : Array Value} {ty : TypeId} {w w' : World} (h : Blk g cs ty w) (ho : Only b w w') (hne : g ≠ b) : Blk g cs ty w':=(ho.2.2.2.2 g hne).trans h
theorem Blk.but {b g : Nat} {cs : Array Value} {ty : TypeId} {w w' : World} (h : Blk g cs ty w) (ho : But b w.heap.size w w') (hne : g ≠ b) : Blk g cs ty w':=(ho.block g h.lt hne).trans h
theorem Blk.below {B g : Nat} {cs : Array Value} {ty : TypeId} {w w' : World} (h : Blk g cs ty w) (ho : Below B w w') (hB : g < B) : Blk g cs ty w':=(ho.block g hB).trans h
theorem Blk.draw {g : Nat} {cs : Array Value} {ty : TypeId} {w : World} (h : Blk g cs ty w) : Blk g cs ty w.drew:=h
theorem Blk.grown {g : Nat} {cs : Array Value} {ty : TypeId} {w w' : World} (h : Blk g cs ty w) {B n k : Nat} {e : TypeId} {v : Value} {xs : List Value} (hown : w.ownsRow B e k v n xs) (hg : w.grownBy w' v.ownBlock) (hte : ty ≠ e) : Blk g cs ty w':=by
 refine (hg.block g h.lt ?_).trans h;intro e1;rcases hown.2 with ⟨rfl,_⟩ | ⟨g',cap,cur,rfl,_,hgb,_⟩
 ·cases e1
 ·simp only [Value.ownBlock,Option.some.injEq] at e1;subst e1;rw [show w.heap[g]? = _ from h] at hgb;simp only [Option.some.injEq,Obj.cells.injEq] at hgb;exact hte hgb.2.1
theorem Blk.ne {g g' : Nat} {cs cs' : Array Value} {ty ty' : TypeId} {w : World} (h : Blk g cs ty w) (h' : Blk g' cs' ty' w) (hne : ty ≠ ty') : g ≠ g':=by
 intro e;subst e;have h' : some (Obj.cells cs ty (0,0)) = some (.cells cs' ty' (0,0)):=(show w.heap[g]? = _ from h).symm.trans h';simp only [Option.some.injEq,Obj.cells.injEq] at h';exact hne h'.2.1
theorem row_set {w : World} {B k : Nat} {e : TypeId} {v : Value} {n : Nat} {xs : List Value} (h : w.ownsRow B e k v n xs) {g : Nat} {cs : Array Value} {ty : TypeId} (hg : Blk g cs ty w) (hte : ty ≠ e) (i : Nat) (u : Value) : (w.setCell ⟨g,i,none⟩ u).ownsRow B e k v n xs:=by
 refine ⟨h.1,?_⟩;rcases h.2 with h1 | ⟨g',cap,cur,r1,r2,r3,r4⟩
 ·exact .inl h1
 ·exact .inr ⟨g',cap,cur,r1,r2,(Below.heap_setCell _ _ _ _ (Ne.symm (hg.ne (ty':=e) r3 hte))).trans r3,r4⟩
theorem row_apart_ty {w : World} {B B' k k' : Nat} {e e' : TypeId} {v v' : Value} {n n' : Nat} {xs xs' : List Value} (h : w.ownsRow B e k v n xs) (h' : w.ownsRow B' e' k' v' n' xs') (hte : e ≠ e') : v.ownBlock = none ∨ v.ownBlock ≠ v'.ownBlock:=by
 rcases h.2 with ⟨rfl,_⟩ | ⟨g,cap,cur,rfl,_,hgb,_⟩
 ·exact .inl rfl
 ·right
  rcases h'.2 with ⟨rfl,_⟩ | ⟨g',cap',cur',rfl,_,hgb',_⟩
  ·simp [Value.ownBlock]
  ·simp only [Value.ownBlock,ne_eq,Option.some.injEq];exact Blk.ne (w:=w) hgb hgb' hte
theorem but_set {b B g i : Nat} {w w1 : World} {u : Value} (h : But b B w w1) (hg : B <= g) : But b B w (w1.setCell ⟨g,i,none⟩ u):=h.trans (But.of_below ((Below.refl _ w1).setCell hg _))
theorem but_alloc {b B : Nat} {w w1 : World} (h : But b B w w1) (hB : B <= w1.heap.size) (o : Obj) : But b B w (w1.alloc o):=h.trans (But.of_below ((Below.refl _ w1).alloc hB _))
theorem but_only {b B : Nat} {w w1 w2 : World} (h : But b B w w1) (ho : Only b w1 w2) : But b B w w2:=h.trans ho.but
theorem but_then {b B : Nat} {w w1 w2 : World} (h : But b B w w1) (k : But b w1.heap.size w1 w2) (hB : B <= w1.heap.size) : But b B w w2:=h.trans ⟨k.os,k.tape,k.output,k.size,fun i hi hne => k.block i (Nat.lt_of_lt_of_le hi hB) hne⟩
theorem but_grown {b B n k : Nat} {w w1 w2 : World} {e : TypeId} {v : Value} {xs : List Value} (h : But b B w w1) (hown : w1.ownsRow B e k v n xs) (hB : B <= w1.heap.size) (hg : w1.grownBy w2 v.ownBlock) : But b B w w2 :=
 h.trans (But.of_below ((Below.refl _ w1).grown hg hB (fun k hk => (hown.lt k hk).1)))
theorem dice_set {b g i : Nat} {w : World} {u : Value} (h : Dice b w) (hg : b < g) : Dice b (w.setCell ⟨g,i,none⟩ u):=h.kept (Nat.lt_succ_self b) ((Below.refl _ w).setCell hg _)
theorem dice_alloc {b : Nat} {w : World} (h : Dice b w) (o : Obj) : Dice b (w.alloc o):=h.kept h.lt (below_box _ _)
theorem dice_grown {b B n k : Nat} {w w2 : World} {e : TypeId} {v : Value} {xs : List Value} (h : Dice b w) (hown : w.ownsRow B e k v n xs) (hb : b < B) (hB : B <= w.heap.size) (hg : w.grownBy w2 v.ownBlock) : Dice b w2 :=
 h.kept hb ((Below.refl _ w).grown hg hB (fun k hk => (hown.lt k hk).1))
theorem row_but {b B k : Nat} {w w' : World} {e : TypeId} {v : Value} {n : Nat} {xs : List Value} (h : w.ownsRow B e k v n xs) (hb : b < B) (ho : But b w.heap.size w w') : w'.ownsRow B e k v n xs:=by
 refine ⟨h.1,?_⟩;rcases h.2 with h1 | ⟨g,cap,cur,r1,r2,r3,r4⟩
 ·exact .inl h1
 ·exact .inr ⟨g,cap,cur,r1,r2,(ho.block g (Array.getElem?_eq_some_iff.1 r3).1 (by omega)).trans r3,r4⟩
def setAll (w : World) (g : Nat) : Nat -> List Value -> World
 | _,[] => w
 | o,v :: r => setAll (w.setCell ⟨g,o,none⟩ v) g (o + 1) r
theorem Blk.puts {g : Nat} {ty : TypeId} : ∀ (vs pre mid post : List Value) (w : World),Blk g (pre ++ mid ++ post).toArray ty w -> mid.length = vs.length -> Blk g (pre ++ vs ++ post).toArray ty (setAll w g pre.length vs)
 | [],pre,mid,post,w,h,hl => by
  rw [List.eq_nil_of_length_eq_zero hl] at h;exact h
 | v :: r,pre,[],post,w,h,hl => by cases hl
 | v :: r,pre,m :: mid,post,w,h,hl => by
  have h1:=h.set pre.length v;have e : (pre ++ (m :: mid) ++ post).toArray.setIfInBounds pre.length v = ((pre ++ [v]) ++ mid ++ post).toArray:=by
   simp
  rw [e] at h1;have h2:=Blk.puts r (pre ++ [v]) mid post _ h1 (by simpa using hl);rw [show (pre ++ [v]).length = pre.length + 1 by simp] at h2;show Blk g _ ty (setAll (w.setCell ⟨g,pre.length,none⟩ v) g (pre.length + 1) r)
  simpa using h2
theorem row_setAll {B k : Nat} {e : TypeId} {v : Value} {n : Nat} {xs : List Value} {g : Nat} {ty : TypeId} (hte : ty ≠ e) : ∀ (vs : List Value) (o : Nat) (w : World) (cs : Array Value),w.ownsRow B e k v n xs -> Blk g cs ty w -> (setAll w g o vs).ownsRow B e k v n xs
 | [],_,_,_,h,_ => h
 | u :: r,o,_,_,h,hg => row_setAll hte r (o + 1) _ _ (row_set h hg hte o u) (hg.set o u)
theorem but_setAll {b B g : Nat} (hg : B <= g) {w : World} : ∀ (vs : List Value) (o : Nat) (w1 : World),But b B w w1 -> But b B w (setAll w1 g o vs)
 | [],_,_,h => h
 | _ :: r,o,_,h => but_setAll hg r (o + 1) _ (but_set h hg)
theorem dice_setAll {b g : Nat} (hg : b < g) : ∀ (vs : List Value) (o : Nat) (w : World),Dice b w -> Dice b (setAll w g o vs)
 | [],_,_,h => h
 | _ :: r,o,_,h => dice_setAll hg r (o + 1) _ (dice_set h hg)
theorem below_setAll {B g : Nat} (hg : B <= g) {w : World} : ∀ (vs : List Value) (o : Nat) (w1 : World),Below B w w1 -> Below B w (setAll w1 g o vs)
 | [],_,_,h => h
 | _ :: r,o,_,h => below_setAll hg r (o + 1) _ (h.setCell hg _)
def RowI (lo : Nat) (w : World) (v : Value) (xs : List Int) : Prop:=w.ownsRow lo 3 1 v xs.length (xs.map (Value.int .i64))
theorem RowI.nil (lo : Nat) (w : World) : RowI lo w (.slice none 0 0) []:=World.ownsRow_nil _ _ _ _
theorem RowI.slice {lo : Nat} {w : World} {v : Value} {xs : List Int} (h : RowI lo w v xs) : ∃ ao c,v = .slice ao xs.length c:=by
 rcases h.2 with ⟨hv,h0⟩ | ⟨g,cap,cur,hv,_⟩
 ·exact ⟨none,0,by rw [hv,h0]⟩
 ·exact ⟨_,_,hv⟩
theorem RowI.ints {lo : Nat} {w : World} {v : Value} {xs : List Int} (h : RowI lo w v xs) : ∃ ao c,v = .slice ao xs.length c /\ Ints w.heap.size w ao xs:=by
 rcases h.2 with ⟨hv,h0⟩ | ⟨g,cap,cur,hv,r2,r3,r4,r5,_⟩
 ·refine ⟨none,0,by rw [hv,h0],fun j x hj => ?_⟩;rw [List.eq_nil_of_length_eq_zero h0] at hj;simp at hj
 ·refine ⟨_,cap,hv,fun j x hj => ⟨_,rfl,(Array.getElem?_eq_some_iff.1 r3).1,?_⟩⟩;subst hv;exact h.cells (g:=g) rfl j _ (by simp [hj])
theorem RowI.snoc {lo : Nat} {w : World} {v : Value} {xs : List Int} {x : Int} (h : w.ownsRow lo 3 1 v (xs.length + 1) (xs.map (Value.int .i64) ++ [.int .i64 x])) : RowI lo w v (xs ++ [x]):=by
 unfold RowI;simpa using h
end Go.Proofs.YtageielcdebjlaaGreatDoor
-- Put
namespace Go.Proofs.YtageielcdebjlaaGreatDoor
open Go.RowKit
end Go.Proofs.YtageielcdebjlaaGreatDoor
-- Written
namespace Go.Proofs.YtageielcdebjlaaGreatDoor
open Go.RowKit
end Go.Proofs.YtageielcdebjlaaGreatDoor
-- Format
namespace Go.Proofs.YtageielcdebjlaaGreatDoor
open Go.RowKit
end Go.Proofs.YtageielcdebjlaaGreatDoor
-- Take
namespace Go.Proofs.YtageielcdebjlaaGreatDoor
open Go.RowKit
end Go.Proofs.YtageielcdebjlaaGreatDoor
-- Parse
namespace Go.Proofs.YtageielcdebjlaaGreatDoor
open Go.RowKit
def FeedB (f : Nat) (n : ByteArray) (v : Int) (ev : Value) (w : World) : Prop:=w.heap[f]? = some (.cells #[.string n,.int .i64 v,ev] 26 (0,0))
theorem FeedB.block {f : Nat} {n : ByteArray} {v : Int} {ev : Value} {w w' : World} (h : FeedB f n v ev w) (hw : w'.heap[f]? = w.heap[f]?) : FeedB f n v ev w':=hw.trans h
theorem FeedB.lt {f : Nat} {n : ByteArray} {v : Int} {ev : Value} {w : World} (h : FeedB f n v ev w) : f < w.heap.size:=(Array.getElem?_eq_some_iff.1 h).1
theorem FeedB.c0 {f : Nat} {n : ByteArray} {v : Int} {ev : Value} {w : World} (h : FeedB f n v ev w) : w.cell? ⟨f,0,none⟩ = some (.string n):=by rw [Lib.cell_of_heap h];rfl
theorem FeedB.c1 {f : Nat} {n : ByteArray} {v : Int} {ev : Value} {w : World} (h : FeedB f n v ev w) : w.cell? ⟨f,1,none⟩ = some (.int .i64 v):=by rw [Lib.cell_of_heap h];rfl
theorem FeedB.c2 {f : Nat} {n : ByteArray} {v : Int} {ev : Value} {w : World} (h : FeedB f n v ev w) : w.cell? ⟨f,2,none⟩ = some ev:=by rw [Lib.cell_of_heap h];rfl
def SlI (B : Nat) (w : World) (v : Value) (xs : List Int) : Prop:=∃ ao c,v = .slice ao xs.length c /\ Ints B w ao xs
theorem SlI.below {B : Nat} {w w' : World} {v : Value} {xs : List Int} (h : SlI B w v xs) (hw : Below B w w') : SlI B w' v xs:=by
 obtain ⟨ao,c,hv,hI⟩:=h;exact ⟨ao,c,hv,hI.below hw⟩
theorem SlI.mono {B B' : Nat} {w : World} {v : Value} {xs : List Int} (h : SlI B w v xs) (hB : B <= B') : SlI B' w v xs:=by
 obtain ⟨ao,c,hv,hI⟩:=h;exact ⟨ao,c,hv,hI.mono hB⟩
theorem EvC.below {B b p : Nat} {e : Ev} {v v' : Value} {w w' : World} (h : EvC b p e v v' w) (hb : b < B) (hw : Below B w w') : EvC b p e v v' w':=by
 have k : ∀ i,w'.cell? ⟨b,i,none⟩ = w.cell? ⟨b,i,none⟩:=fun i => hw.cell (p:=⟨b,i,none⟩) hb
 obtain ⟨c0,c1,c2,c3,c4,c5,c6,c7,c8,c9,c10,c11,c12⟩:=h;exact ⟨(k _).trans c0,(k _).trans c1,(k _).trans c2,(k _).trans c3,(k _).trans c4,(k _).trans c5,(k _).trans c6,(k _).trans c7,(k _).trans c8,(k _).trans c9,(k _).trans c10,(k _).trans c11,(k _).trans c12⟩
structure EvB (e : Ev) : Prop where
 ex : e.days.ex.length <= 4611686018427387903
 xt : e.days.xt.length <= 4611686018427387903
 uid : e.uid.size <= 4611686018427387904
 summ : e.summ.size <= 4611686018427387904
 loc : e.loc.size <= 4611686018427387904
def Evs (B : Nat) (w : World) (ao : Option Addr) (es : List Ev) : Prop:=es = [] ∨ ∃ b o,ao = some ⟨b,o,none⟩ /\ b < B /\ ∀ (j : Nat) (e : Ev),es[j]? = some e -> EvB e /\ ∃ v v',EvC b (o + j * 13) e v v' w /\ SlI B w v e.days.ex /\ SlI B w v' e.days.xt
theorem Evs.below {B : Nat} {w w' : World} {ao : Option Addr} {es : List Ev} (h : Evs B w ao es) (hw : Below B w w') : Evs B w' ao es:=by
 rcases h with h | ⟨b,o,ha,hb,hc⟩
 ·exact .inl h
 ·refine .inr ⟨b,o,ha,hb,fun j e hj => ?_⟩;obtain ⟨h1,v,v',h2,h3,h4⟩:=hc j e hj;exact ⟨h1,v,v',h2.below hb hw,h3.below hw,h4.below hw⟩
theorem Evs.form {B : Nat} {w : World} {ao : Option Addr} {es : List Ev} (h : Evs B w ao es) (hne : 0 < es.length) :
  ∃ b o,ao = some ⟨b,o,none⟩ /\ b < B /\ ∀ (j : Nat) (e : Ev),es[j]? = some e -> EvB e /\ ∃ v v',EvC b (o + j * 13) e v v' w /\ SlI B w v e.days.ex /\ SlI B w v' e.days.xt:=by
 rcases h with h | h
 ·rw [h] at hne;cases hne
 ·exact h
theorem valid46 (n : ByteArray) (v : Int) (es : List Ev) (ao : Option Addr) (c : Nat) (B : Nat) (w : World) (hB : B <= w.heap.size) (hE : Evs B w ao es) (hn : es.length <= 4611686018427387903) :
  Calls Tryz.prog 46 #[.agg #[.string n,.int .i64 v,.slice ao es.length c]] w fun e w' => e = .returned (.int .i64 (feedV n v es)) /\ Below w.heap.size w w':=by
 have HE:=Lh hE;clear hE;by_cases hc : Tt.code n.data.toList = false
 ·have HR:=Lh (show feedV n v es = 10 by unfold feedV;rw [if_pos hc]);have HC:=Lh hc;clear hc;go_enter Tryz.func46,Tryz.ntmps46;go_wp2_with (go_at_call 94;refine (code_any _ _).mono ?_;rintro e w' ⟨rfl,rfl⟩;rw [HC.out]);go_ret;exact ⟨ret_int HR.out.symm,below_box _ _⟩
 ·by_cases h1 : v < 0 ∨ 64 < v
  ·have HR:=Lh (show feedV n v es = 3 by unfold feedV;rw [if_neg hc,if_pos h1]);have HC:=Lh (show Tt.code n.data.toList = true by simpa using hc);clear hc;rcases h1 with h1 | h1
   ·go_enter Tryz.func46,Tryz.ntmps46;go_wp2_with (go_at_call 94;refine (code_any _ _).mono ?_;rintro e w' ⟨rfl,rfl⟩;rw [HC.out]);go_ret;exact ⟨ret_int HR.out.symm,below_box _ _⟩
   ·have v1 : ¬ v < 0:=by omega
    go_enter Tryz.func46,Tryz.ntmps46;go_wp2_with (go_at_call 94;refine (code_any _ _).mono ?_;rintro e w' ⟨rfl,rfl⟩;rw [HC.out]);go_ret;exact ⟨ret_int HR.out.symm,below_box _ _⟩
  ·by_cases h2 : 256 < (es.length : Int)
   ·have HR:=Lh (show feedV n v es = 2 by unfold feedV;rw [if_neg hc,if_neg h1,if_pos h2]);have HC:=Lh (show Tt.code n.data.toList = true by simpa using hc);have v1 : ¬ v < 0:=by omega
    have v2 : ¬ 64 < v:=by omega
    clear hc h1;go_enter Tryz.func46,Tryz.ntmps46;go_wp2_with (go_at_call 94;refine (code_any _ _).mono ?_;rintro e w' ⟨rfl,rfl⟩;rw [HC.out]);go_ret;exact ⟨ret_int HR.out.symm,below_box _ _⟩
   ·have v1 : ¬ v < 0:=by omega
    have v2 : ¬ 64 < v:=by omega
    have HC:=Lh (show Tt.code n.data.toList = true by simpa using hc);have HV:=Lh (show feedV n v es = evsF v es 0 by unfold feedV;rw [if_neg hc,if_neg h1,if_neg h2];rfl);have F0 : FeedB w.heap.size n v (.slice ao es.length c) (w.alloc (.cells #[.string n,.int .i64 v,.slice ao es.length c] 26)):=heap_alloc_new w _;have HF0:=Lh F0;clear hc h1 F0;go_enter Tryz.func46,Tryz.ntmps46;go_wp2_with (go_at_call 94;refine (code_any _ _).mono ?_;rintro e w' ⟨rfl,rfl⟩;rw [HC.out]);go_loopw [28] (fun iv wr => ∃ k : Nat,iv = .int .i64 k /\ k <= es.length /\ Below w.heap.size w wr /\ Hid (FeedB w.heap.size n v (.slice ao es.length c) wr) /\ Hid (evsF v es 0 = evsF v es k)) (fun iv _ => es.length - (intOf iv).toNat)
    case atStart => exact ⟨0,rfl,Nat.zero_le _,below_box _ _,HF0.out,rfl⟩
    case round =>
     obtain ⟨k,rfl,hk,hbe,HF,HK⟩:=hrel;have f0:=HF.out.c0;have f1:=HF.out.c1;have f2:=HF.out.c2;have hsz:=HF.out.lt;by_cases hlt : k < es.length
     ·obtain ⟨e,he⟩ : ∃ e,es[k]? = some e:=⟨_,List.getElem?_eq_getElem hlt⟩
      obtain ⟨b,o,ha,hb,hev⟩:=HE.out.form (by omega);subst ha;obtain ⟨hE1,x,x',hC,hX,hX'⟩:=hev k e he;have HC1:=hC.below (w':=wr) hb (hbe.mono hB);obtain ⟨c0,c1,c2,c3,c4,c5,c6,c7,c8,c9,c10,c11,c12⟩:=HC1;obtain ⟨ax,cx,hx,hI⟩:=hX;obtain ⟨ay,cy,hy,hI'⟩:=hX';subst hx hy;have HEV:=Lh hev;have hki : (k : Int) < (es.length : Int):=by omega
      clear hev;go_wp2_with fail;obtain ⟨W,hW⟩ : ∃ W,W = wr.alloc (.cells (evCells e (.slice ax e.days.ex.length cx) (.slice ay e.days.xt.length cy)) 82):=⟨_,rfl⟩
      have hbW : Below wr.heap.size wr W:=by rw [hW];exact below_box wr _
      have HA0 : Hid (EvBox wr.heap.size e (.slice ax e.days.ex.length cx) (.slice ay e.days.xt.length cy) W):=by rw [hW];exact heap_alloc_new wr _
      unfold evCells at hW;rw [<- hW];clear hW;refine (right95 e.uid W hE1.uid).mono ?_;rintro z w1 ⟨rfl,hb1⟩;have hbe1:=below_then (below_then hbe hbW) hb1;have HA1:=Lh (HA0.out.block (hb1.block _ HA0.out.lt));have HF1:=Lh (HF.out.block ((hb1.block _ (Nat.lt_of_lt_of_le hsz hbW.size)).trans (hbW.block _ hsz)));have hHs:=HA1.out.lt;have HSTEP:=Lh (evsF_cons v es k e he);have hB1 : Hid (Below wr.heap.size wr w1):=hbW.trans (hb1.mono hbW.size);clear hbW hb1 HA0 HF c0 c1 c2 c3 c4 c5 c6 c7 c8 c9 c10 c11 c12 f0 f1 f2;obtain ⟨c0,c1,c2,c3,c4,c5,c6,c7,c8,c9,c10,c11,c12⟩:=HA1.out.c;have f0:=HF1.out.c0;have f1:=HF1.out.c1;have f2:=HF1.out.c2;cases hr : rightB e.uid.data.toList
      ·have HR:=Lh (show feedV n v es = 4 from HV.out.trans (HK.out.trans (HSTEP.out.trans (if_pos hr))));clear hr;go_wp2_with fail;go_ret;exact ⟨ret_int HR.out.symm,hbe1⟩
      ·have HST2:=Lh (HSTEP.out.trans (if_neg (by rw [hr];simp)));clear hr;cases k with
       | zero =>
        go_wp2_with fail;go_quiet (fail)
        obtain ⟨w2,hw2,hB2,hC2,hH2⟩:=redrew w1 nq;have hbe2:=hbe1.trans (hB2 _);have HA2:=Lh (HA1.out.block (hH2 _));have HF2:=Lh (HF1.out.block (hH2 _));have hBB : Hid (Below wr.heap.size wr w2):=hB1.out.trans (hB2 _);rw [<- hw2];clear hw2 hB2 hC2 hH2 c0 c1 c2 c3 c4 c5 c6 c7 c8 c9 c10 c11 c12 f0 f1 f2 HA1 HF1 hHs hbe1 hB1;obtain ⟨c0,c1,c2,c3,c4,c5,c6,c7,c8,c9,c10,c11,c12⟩:=HA2.out.c;have f0:=HF2.out.c0;have f1:=HF2.out.c1;have f2:=HF2.out.c2;have HST3:=Lh (HST2.out.trans (if_neg (by show ¬ (false = true);simp)));go_wp2_with fail;refine (check96 e v B w2 ax ay cx cy (Nat.le_trans hB hbe2.size) (hI.below (hbe2.mono hB)) (hI'.below (hbe2.mono hB)) hE1.ex hE1.xt hE1.summ hE1.loc).mono ?_;rintro z w3 ⟨rfl,hb3⟩;have hbe3:=below_then hbe2 hb3;have HF3:=Lh (HF2.out.block (hb3.block _ (Nat.lt_of_lt_of_le hsz hBB.out.size)));by_cases hcv : checkV e v = 0
        ·have HR:=Lh (show evsF v es 0 = evsF v es (0 + 1) from HST3.out.trans (if_neg (by simp [hcv])));rw [hcv];clear hcv;go_wp2_with fail;go_roundw
         case rel => exact ⟨0 + 1,by go_num,by omega,hbe3,HF3.out,HR.out⟩
         case measure => simp [intOf];omega
        ·have HR:=Lh (show feedV n v es = checkV e v from HV.out.trans (HST3.out.trans (if_pos hcv)));have hcv2 : (checkV e v != 0) = true:=by simp [hcv]
         clear hcv;go_wp2_with fail;go_ret;exact ⟨ret_int HR.out.symm,hbe3⟩
       | succ j =>
        obtain ⟨p,hp⟩ : ∃ p,es[j]? = some p:=⟨_,List.getElem?_eq_getElem (by omega)⟩
        obtain ⟨_,y,y',hCp,_,_⟩:=HEV.out j p hp;have p0:=(hCp.below (w':=w1) hb (hbe1.mono hB)).c0;clear hCp;go_wp2_with fail;go_quiet (fail)
        obtain ⟨w2,hw2,hB2,hC2,hH2⟩:=redrew w1 nq;have hbe2:=hbe1.trans (hB2 _);have HA2:=Lh (HA1.out.block (hH2 _));have HF2:=Lh (HF1.out.block (hH2 _));have hBB : Hid (Below wr.heap.size wr w2):=hB1.out.trans (hB2 _);rw [<- hw2];clear hw2 hB2 hC2 hH2 c0 c1 c2 c3 c4 c5 c6 c7 c8 c9 c10 c11 c12 f0 f1 f2 HA1 HF1 hHs hbe1 hB1 p0;obtain ⟨c0,c1,c2,c3,c4,c5,c6,c7,c8,c9,c10,c11,c12⟩:=HA2.out.c;have f0:=HF2.out.c0;have f1:=HF2.out.c1;have f2:=HF2.out.c2;have hprev:=Lh (prevU_succ es j p hp);cases hlt2 : (Op.bytesLess e.uid.toList p.uid.toList || e.uid.toList == p.uid.toList)
        case true =>
         have HR:=Lh (show feedV n v es = 63 from HV.out.trans (HK.out.trans (HST2.out.trans (if_pos (by rw [hprev.out];exact hlt2)))));clear hlt2 hp;go_wp2_with fail;go_ret;exact ⟨ret_int HR.out.symm,hbe2⟩
        have HST3:=Lh (HST2.out.trans (if_neg (by rw [hprev.out];show ¬ (_ = true);rw [show lateU (some p.uid) e.uid = false from hlt2];simp)));clear hlt2 hp;go_wp2_with fail;refine (check96 e v B w2 ax ay cx cy (Nat.le_trans hB hbe2.size) (hI.below (hbe2.mono hB)) (hI'.below (hbe2.mono hB)) hE1.ex hE1.xt hE1.summ hE1.loc).mono ?_;rintro z w3 ⟨rfl,hb3⟩;have hbe3:=below_then hbe2 hb3;have HF3:=Lh (HF2.out.block (hb3.block _ (Nat.lt_of_lt_of_le hsz hBB.out.size)));by_cases hcv : checkV e v = 0
        ·have HR:=Lh (show evsF v es 0 = evsF v es ((j + 1) + 1) from HK.out.trans (HST3.out.trans (if_neg (by simp [hcv]))));rw [hcv];clear hcv;go_wp2_with fail;go_roundw
         case rel => exact ⟨(j + 1) + 1,by go_num,by omega,hbe3,HF3.out,HR.out⟩
         case measure => simp [intOf];omega
        ·have HR:=Lh (show feedV n v es = checkV e v from HV.out.trans (HK.out.trans (HST3.out.trans (if_pos hcv))));have hcv2 : (checkV e v != 0) = true:=by simp [hcv]
         clear hcv;go_wp2_with fail;go_ret;exact ⟨ret_int HR.out.symm,hbe3⟩
     ·have hki : ¬ (k : Int) < (es.length : Int):=by omega
      have HR:=Lh (show feedV n v es = 0 from HV.out.trans (HK.out.trans (evsF_end v es k (by omega))));go_wp2_with fail;go_ret;exact ⟨ret_int HR.out.symm,hbe⟩
end Go.Proofs.YtageielcdebjlaaGreatDoor
