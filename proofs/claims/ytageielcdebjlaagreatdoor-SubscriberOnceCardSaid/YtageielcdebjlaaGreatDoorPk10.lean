/- A published timetable's error: changes.Valid (126) and the reference's Valid (151). The feed of a timetable's versions: what feed.Make answers. Lists of lists of sessions in memory. No function of the program in sight. The small generators of grids, weeks and times: their contracts. -/
import Derived.Test.YtageielcdebjlaaGreatDoorPk9
import Derived.Deep.RegionHeld3
import Derived.Test.YtageielcdebjlaaGreatDoorPk8
import Derived.Test.YtageielcdebjlaaGreatDoorPk6
import Derived.Test.YtageielcdebjlaaGreatDoorPk4
set_option maxRecDepth 100000
set_option maxHeartbeats 40000000
namespace Go.Proofs.YtageielcdebjlaaGreatDoor
open Go.RowKit
def SesAt (B : Nat) (w : World) (ao : Option Addr) (ls : List Ses) : Prop:=ls = [] ∨ ∃ b o,ao = some ⟨b,o,none⟩ /\ b < B /\ ∀ (j i : Nat) (s : Ses) (u : Value),ls[j]? = some s -> (sesCells s).toList[i]? = some u -> w.cell? ⟨b,o + j * 6 + i,none⟩ = some u
theorem SesAt.below {B : Nat} {w w' : World} {ao : Option Addr} {ls : List Ses} (h : SesAt B w ao ls) (hb : Below B w w') : SesAt B w' ao ls:=by
 rcases h with h | ⟨b,o,h1,h2,h3⟩
 ·exact .inl h
 ·exact .inr ⟨b,o,h1,h2,fun j i s u hs hu => (hb.cell (p:=⟨b,o + j * 6 + i,none⟩) h2).trans (h3 j i s u hs hu)⟩
theorem SesAt.mono {B B' : Nat} {w : World} {ao : Option Addr} {ls : List Ses} (h : SesAt B w ao ls) (hB : B <= B') : SesAt B' w ao ls:=by
 rcases h with h | ⟨b,o,h1,h2,h3⟩
 ·exact .inl h
 ·exact .inr ⟨b,o,h1,by omega,h3⟩
theorem SesAt.form {B : Nat} {w : World} {ao : Option Addr} {ls : List Ses} (h : SesAt B w ao ls) (hp : 0 < ls.length) : ∃ b o,ao = some ⟨b,o,none⟩ /\ b < B /\ ∀ (j i : Nat) (s : Ses) (u : Value),ls[j]? = some s -> (sesCells s).toList[i]? = some u -> w.cell? ⟨b,o + j * 6 + i,none⟩ = some u:=by
 rcases h with h | h
 ·subst h;simp at hp
 ·exact h
theorem bef_ord {a b : Ses} : befB a b = true ↔ (if cmpS a.cls b.cls ≠ 0 then cmpS a.cls b.cls else Lib.compareInt (lowW a) (lowW b)) < 0:=by
 unfold befB cmpS lessU Lib.compareInt;rw [dec_bytes];by_cases h1 : Op.bytesLess a.cls.toList b.cls.toList = true
 ·rw [if_pos h1,h1];simp
 ·rw [if_neg h1];have h1 : Op.bytesLess a.cls.toList b.cls.toList = false:=by simpa using h1
  rw [h1];by_cases h2 : a.cls = b.cls
  ·rw [decide_eq_true h2];simp only [Bool.false_or,Bool.true_and,decide_eq_true_eq,if_true,ne_eq,not_true,if_false];constructor
   ·intro h3;rw [if_pos h3];decide
   ·intro h3;split at h3
    ·rename_i g;exact g
    ·split at h3 <;> omega
  ·rw [decide_eq_false h2];simp
theorem chg_range {l : List Ses} {n : Int} (h : n < 1 ∨ 20 < n) : chgV l n = 3:=if_pos h
theorem chg_size {l : List Ses} {n : Int} (h : ¬ (n < 1 ∨ 20 < n)) (h2 : 96 < (l.length : Int)) : chgV l n = 2:=(if_neg h).trans (if_pos h2)
theorem chg_ses {l : List Ses} {n : Int} (h : ¬ (n < 1 ∨ 20 < n)) (h2 : ¬ 96 < (l.length : Int)) (h3 : sesL n l ≠ 0) : chgV l n = sesL n l:=(if_neg h).trans ((if_neg h2).trans (if_pos h3))
theorem chg_ord {l : List Ses} {n : Int} (h : ¬ (n < 1 ∨ 20 < n)) (h2 : ¬ 96 < (l.length : Int)) (h3 : sesL n l = 0) (h4 : ordB l = false) : chgV l n = 63:=(if_neg h).trans ((if_neg h2).trans ((if_neg (by simp [h3])).trans (if_pos h4)))
theorem chg_dup {l : List Ses} {n : Int} (h : ¬ (n < 1 ∨ 20 < n)) (h2 : ¬ 96 < (l.length : Int)) (h3 : sesL n l = 0) (h4 : ordB l = true) (h5 : dupB [] l = true) : chgV l n = 11:=(if_neg h).trans ((if_neg h2).trans ((if_neg (by simp [h3])).trans ((if_neg (by simp [h4])).trans (if_pos h5))))
theorem chg_ok {l : List Ses} {n : Int} (h : ¬ (n < 1 ∨ 20 < n)) (h2 : ¬ 96 < (l.length : Int)) (h3 : sesL n l = 0) (h4 : ordB l = true) (h5 : dupB [] l = false) : chgV l n = 0:=(if_neg h).trans ((if_neg h2).trans ((if_neg (by simp [h3])).trans ((if_neg (by simp [h4])).trans (if_neg (by simp [h5])))))
theorem chg126 (ls : List Ses) (n : Int) (ao : Option Addr) (c B : Nat) (w : World) (hB : B <= w.heap.size) (hS : SesAt B w ao ls) (hcap : ls.length <= c) (hc : c <= 9223372036854775807) (hT : Tz w) (h6 : 6 < w.heap.size) : Calls Tryz.prog 126 #[.slice ao ls.length c,.int .i64 n] w fun e w' => e = .returned (.int .i64 (chgV ls n)) /\ Below w.heap.size w w':=by
 have HS:=Lh (hS.mono hB);have HT:=Lh hT;have HSix:=Lh h6;clear hS hT h6;by_cases hn : n < 1 ∨ 20 < n
 ·have HR:=Lh (chg_range (l:=ls) hn);rcases hn with hn | hn
  ·go_enter Tryz.func126,Tryz.ntmps126;go_wp2_with fail;go_ret;exact ⟨ret_int HR.out.symm,Below.refl _ _⟩
  ·have hn1 : ¬ n < 1:=by omega
   go_enter Tryz.func126,Tryz.ntmps126;go_wp2_with fail;go_ret;exact ⟨ret_int HR.out.symm,Below.refl _ _⟩
 have HN:=Lh hn;have hn1 : ¬ n < 1:=by omega
 have hn2 : ¬ 20 < n:=by omega
 clear hn;by_cases hl : 96 < (ls.length : Int)
 ·have HR:=Lh (chg_size HN.out hl);go_enter Tryz.func126,Tryz.ntmps126;go_wp2_with fail;go_ret;exact ⟨ret_int HR.out.symm,Below.refl _ _⟩
 have HLN:=Lh (show (ls.length : Int) <= 96 from by omega);go_enter Tryz.func126,Tryz.ntmps126;go_wp2_with fail;go_loopw [24] (fun iv wr => ∃ k : Nat,iv = .int .i64 k /\ k <= ls.length /\ Hid (sesL n ls = sesL n (ls.drop k)) /\ Hid (Below w.heap.size w wr)) (fun iv _ => ls.length - (intOf iv).toNat)
 case atStart => exact ⟨0,rfl,Nat.zero_le _,Lh rfl,Lh (Below.refl _ _)⟩
 case round =>
  obtain ⟨k,rfl,hk,HK,HB⟩:=hrel;by_cases hlt : k < ls.length
  ·have hki : (k : Int) < (ls.length : Int):=by omega
   have hk0 : (0 : Int) <= (k : Int):=by omega
   obtain ⟨b,o,ha,hbl,hev⟩:=HS.out.form (by omega);subst ha;obtain ⟨s,hs⟩ : ∃ s,ls[k]? = some s:=⟨_,List.getElem?_eq_getElem hlt⟩
   have Hs:=Lh hs;have x0 : wr.cell? ⟨b,o + k * 6,none⟩ = some (.string s.cls):=(HB.out.cell (p:=⟨b,o + k * 6,none⟩) hbl).trans (hev k 0 s _ Hs.out rfl);have x1 : wr.cell? ⟨b,o + k * 6 + 1,none⟩ = some (.int .i64 s.tim.weeks):=(HB.out.cell (p:=⟨b,o + k * 6 + 1,none⟩) hbl).trans (hev k 1 s _ Hs.out rfl);have x2 : wr.cell? ⟨b,o + k * 6 + 2,none⟩ = some (.int .i64 s.tim.day):=(HB.out.cell (p:=⟨b,o + k * 6 + 2,none⟩) hbl).trans (hev k 2 s _ Hs.out rfl);have x3 : wr.cell? ⟨b,o + k * 6 + 3,none⟩ = some (.int .i64 s.tim.start):=(HB.out.cell (p:=⟨b,o + k * 6 + 3,none⟩) hbl).trans (hev k 3 s _ Hs.out rfl);have x4 : wr.cell? ⟨b,o + k * 6 + 4,none⟩ = some (.int .i64 s.tim.len):=(HB.out.cell (p:=⟨b,o + k * 6 + 4,none⟩) hbl).trans (hev k 4 s _ Hs.out rfl);have x5 : wr.cell? ⟨b,o + k * 6 + 5,none⟩ = some (.string s.room):=(HB.out.cell (p:=⟨b,o + k * 6 + 5,none⟩) hbl).trans (hev k 5 s _ Hs.out rfl);have HST:=Lh (HK.out.trans (sesL_step n ls k s hs));clear hev hs;obtain ⟨X,hX⟩ : ∃ x,x = wr.heap.size:=⟨_,rfl⟩
   obtain ⟨w1,hw1⟩ : ∃ x,x = wr.alloc (.cells #[.string s.cls,.int .i64 s.tim.weeks,.int .i64 s.tim.day,.int .i64 s.tim.start,.int .i64 s.tim.len,.string s.room] 107):=⟨_,rfl⟩
   have HX1:=Lh (show Blk X #[.string s.cls,.int .i64 s.tim.weeks,.int .i64 s.tim.day,.int .i64 s.tim.start,.int .i64 s.tim.len,.string s.room] 107 w1 from by rw [hw1,hX];exact Blk.new wr _ _);have HB1:=Lh (show Below w.heap.size w w1 from by rw [hw1];exact HB.out.alloc HB.out.size _);go_upto_region 8 with (fail);rw [<- hw1,<- hX];clear hw1 hX x0 x1 x2 x3 x4 x5;have y0 : w1.cell? ⟨X,0,none⟩ = some (.string s.cls):=HX1.out.cell 0;have y1 : w1.cell? ⟨X,1,none⟩ = some (.int .i64 s.tim.weeks):=HX1.out.cell 1;have y2 : w1.cell? ⟨X,2,none⟩ = some (.int .i64 s.tim.day):=HX1.out.cell 2;have y3 : w1.cell? ⟨X,3,none⟩ = some (.int .i64 s.tim.start):=HX1.out.cell 3;have y4 : w1.cell? ⟨X,4,none⟩ = some (.int .i64 s.tim.len):=HX1.out.cell 4;have y5 : w1.cell? ⟨X,5,none⟩ = some (.string s.room):=HX1.out.cell 5;have HC:=Lh (check194 s n w1);unfold sesVal sesCells at HC;obtain ⟨E,hE⟩ : ∃ e,e = sesE s n:=⟨_,rfl⟩
   rw [<- hE] at HC HST;clear hE;go_wp2_with fail;refine HC.out.mono ?_;clear HC;rintro e w2 ⟨rfl,hb⟩;have HB2:=Lh (HB1.out.trans (hb.mono HB1.out.size));clear hb y0 y1 y2 y3 y4 y5;by_cases hE : E = 0
   ·subst hE;have HK2:=Lh (show sesL n ls = sesL n (ls.drop (k + 1)) from HST.out.trans (if_neg (by simp)));go_wp2_with fail;go_roundw
    case rel => exact ⟨k + 1,by go_num,by omega,HK2,HB2⟩
    case measure => simp [intOf];omega
   ·have HR:=Lh (show chgV ls n = E from by have h:=HST.out.trans (if_pos hE);rw [chg_ses HN.out (show ¬ 96 < (ls.length : Int) from by have:=HLN.out;omega) (by rw [h];exact hE),h]);have hE2 : (E == 0) = false:=by simpa using hE
    have hE3 : (E != 0) = true:=by simpa using hE
    go_wp2_with fail;go_ret;exact ⟨ret_int HR.out.symm,HB2.out⟩
  have hki : ¬ (k : Int) < (ls.length : Int):=by omega
  have HSL:=Lh (show sesL n ls = 0 from by rw [HK.out,List.drop_eq_nil_of_le (by omega)];rfl);obtain ⟨wa,hwa⟩ : ∃ q,q = wr:=⟨_,rfl⟩
  rw [<- hwa] at HB ⊢;clear hwa;have HSE:=Lh (sesL_each n ls HSL.out);go_wp2_with fail;clear hki hk hlt HK;go_loopw [8] (fun iv wr => ∃ k : Nat,iv = .int .i64 ((k : Int) + 1) /\ k <= ls.length /\ Hid (ordB ls = ordB (ls.drop k)) /\ Hid (Below w.heap.size w wr)) (fun iv _ => ls.length + 1 - (intOf iv).toNat)
  case atStart => exact ⟨0,rfl,Nat.zero_le _,Lh rfl,HB⟩
  case round =>
   clear HB;obtain ⟨k,rfl,hk,HK,HB⟩:=hrel;by_cases hlt : k + 1 < ls.length
   ·have hki : (k : Int) + 1 < (ls.length : Int):=by omega
    have hk0 : (0 : Int) <= (k : Int):=by omega
    have hkl : (k : Int) < (ls.length : Int):=by omega
    obtain ⟨b,o,ha,hbl,hev⟩:=HS.out.form (by omega);subst ha;obtain ⟨s,hs⟩ : ∃ s,ls[k]? = some s:=⟨_,List.getElem?_eq_getElem (by omega)⟩
    obtain ⟨z,hz⟩ : ∃ z,ls[k + 1]? = some z:=⟨_,List.getElem?_eq_getElem hlt⟩
    have Hs:=Lh hs;have Hz:=Lh hz;have HST:=Lh (HK.out.trans (ordB_step ls k s z hs hz));have HWs:=Lh (sesE_low (HSE.out s (List.mem_of_getElem? hs)));have HWz:=Lh (sesE_low (HSE.out z (List.mem_of_getElem? hz)));have hbr : b < wr.heap.size:=Nat.lt_of_lt_of_le hbl HB.out.size;have HKP : Hid (∀ W' : World,Below wr.heap.size wr W' -> W'.cell? ⟨b,o + k * 6,none⟩ = some (.string s.cls) /\ W'.cell? ⟨b,o + k * 6 + 1,none⟩ = some (.int .i64 s.tim.weeks) /\ W'.cell? ⟨b,o + k * 6 + 2,none⟩ = some (.int .i64 s.tim.day) /\ W'.cell? ⟨b,o + k * 6 + 3,none⟩ = some (.int .i64 s.tim.start) /\ W'.cell? ⟨b,o + k * 6 + 4,none⟩ = some (.int .i64 s.tim.len) /\ W'.cell? ⟨b,o + k * 6 + 5,none⟩ = some (.string s.room) /\ W'.cell? ⟨b,o + (k + 1) * 6,none⟩ = some (.string z.cls) /\ W'.cell? ⟨b,o + (k + 1) * 6 + 1,none⟩ = some (.int .i64 z.tim.weeks) /\ W'.cell? ⟨b,o + (k + 1) * 6 + 2,none⟩ = some (.int .i64 z.tim.day) /\ W'.cell? ⟨b,o + (k + 1) * 6 + 3,none⟩ = some (.int .i64 z.tim.start) /\ W'.cell? ⟨b,o + (k + 1) * 6 + 4,none⟩ = some (.int .i64 z.tim.len) /\ W'.cell? ⟨b,o + (k + 1) * 6 + 5,none⟩ = some (.string z.room)):=Lh fun W' hW => ⟨((hW.cell (p:=⟨b,o + k * 6,none⟩) hbr).trans ((HB.out.cell (p:=⟨b,o + k * 6,none⟩) hbl).trans (hev k 0 s _ Hs.out rfl))),((hW.cell (p:=⟨b,o + k * 6 + 1,none⟩) hbr).trans ((HB.out.cell (p:=⟨b,o + k * 6 + 1,none⟩) hbl).trans (hev k 1 s _ Hs.out rfl))),((hW.cell (p:=⟨b,o + k * 6 + 2,none⟩) hbr).trans ((HB.out.cell (p:=⟨b,o + k * 6 + 2,none⟩) hbl).trans (hev k 2 s _ Hs.out rfl))),((hW.cell (p:=⟨b,o + k * 6 + 3,none⟩) hbr).trans ((HB.out.cell (p:=⟨b,o + k * 6 + 3,none⟩) hbl).trans (hev k 3 s _ Hs.out rfl))),((hW.cell (p:=⟨b,o + k * 6 + 4,none⟩) hbr).trans ((HB.out.cell (p:=⟨b,o + k * 6 + 4,none⟩) hbl).trans (hev k 4 s _ Hs.out rfl))),((hW.cell (p:=⟨b,o + k * 6 + 5,none⟩) hbr).trans ((HB.out.cell (p:=⟨b,o + k * 6 + 5,none⟩) hbl).trans (hev k 5 s _ Hs.out rfl))),((hW.cell (p:=⟨b,o + (k + 1) * 6,none⟩) hbr).trans ((HB.out.cell (p:=⟨b,o + (k + 1) * 6,none⟩) hbl).trans (hev (k + 1) 0 z _ Hz.out rfl))),((hW.cell (p:=⟨b,o + (k + 1) * 6 + 1,none⟩) hbr).trans ((HB.out.cell (p:=⟨b,o + (k + 1) * 6 + 1,none⟩) hbl).trans (hev (k + 1) 1 z _ Hz.out rfl))),((hW.cell (p:=⟨b,o + (k + 1) * 6 + 2,none⟩) hbr).trans ((HB.out.cell (p:=⟨b,o + (k + 1) * 6 + 2,none⟩) hbl).trans (hev (k + 1) 2 z _ Hz.out rfl))),((hW.cell (p:=⟨b,o + (k + 1) * 6 + 3,none⟩) hbr).trans ((HB.out.cell (p:=⟨b,o + (k + 1) * 6 + 3,none⟩) hbl).trans (hev (k + 1) 3 z _ Hz.out rfl))),((hW.cell (p:=⟨b,o + (k + 1) * 6 + 4,none⟩) hbr).trans ((HB.out.cell (p:=⟨b,o + (k + 1) * 6 + 4,none⟩) hbl).trans (hev (k + 1) 4 z _ Hz.out rfl))),((hW.cell (p:=⟨b,o + (k + 1) * 6 + 5,none⟩) hbr).trans ((HB.out.cell (p:=⟨b,o + (k + 1) * 6 + 5,none⟩) hbl).trans (hev (k + 1) 5 z _ Hz.out rfl)))⟩
    have HD : Hid (∀ (q : Ses) (W : World),Tt.weeksB q.tim.weeks 20 = true -> Below wr.heap.size wr W -> Calls Tryz.prog 196 #[.agg #[.string q.cls,.int .i64 q.tim.weeks,.int .i64 q.tim.day,.int .i64 q.tim.start,.int .i64 q.tim.len,.string q.room]] W fun e w' => e = .returned (.agg #[.string q.cls,.int .i64 q.tim.weeks,.int .i64 q.tim.day,.int .i64 q.tim.start,.int .i64 q.tim.len,.string q.room,.int .i64 (lowW q)]) /\ Below W.heap.size W w'):=Lh fun q W hq hW => date196 q W hq (HT.out.below HSix.out (HB.out.trans (hW.mono HB.out.size))) (Nat.lt_of_lt_of_le HSix.out (HB.out.trans (hW.mono HB.out.size)).size)
    obtain ⟨od,hod⟩ : ∃ v,v = (if cmpS s.cls z.cls ≠ 0 then cmpS s.cls z.cls else Lib.compareInt (lowW s) (lowW z)):=⟨_,rfl⟩
    have HO:=Lh (fun W => order195 s z (lowW s) (lowW z) W);rw [<- hod] at HO;have HBE:=Lh (show befB s z = true ↔ od < 0 from by rw [hod];exact bef_ord);have HDs:=Lh (fun W hW => HD.out s W HWs.out hW);have HDz:=Lh (fun W hW => HD.out z W HWz.out hW);obtain ⟨la,hla⟩ : ∃ v,v = lowW s:=⟨_,rfl⟩
    obtain ⟨lb,hlb⟩ : ∃ v,v = lowW z:=⟨_,rfl⟩
    rw [<- hla] at HDs HO;rw [<- hlb] at HDz HO;clear hev hs hz hod hla hlb HD;have hsub : ((k : Int) + 1 - 1).toNat = k:=by omega
    have hsb2 : (k : Int) + 1 - 1 = (k : Int):=by omega
    have hwk : IntKind.i64.wrap ((k : Int) + 1 - 1) = (k : Int):=by rw [IntKind.wrap_i64];omega
    have hwk0 : IntKind.i64.wrap (k : Int) = (k : Int):=by rw [IntKind.wrap_i64];omega
    have hkn : ((k : Int)).toNat = k:=by omega
    have hk10 : (0 : Int) <= (k : Int) + 1:=by omega
    have hk1n : ((k : Int) + 1).toNat = k + 1:=by omega
    go_wp2_with fail;go_region_held3 (fun W' => W'.cell? ⟨b,o + k * 6,none⟩ = some (.string s.cls) /\ W'.cell? ⟨b,o + k * 6 + 1,none⟩ = some (.int .i64 s.tim.weeks) /\ W'.cell? ⟨b,o + k * 6 + 2,none⟩ = some (.int .i64 s.tim.day) /\ W'.cell? ⟨b,o + k * 6 + 3,none⟩ = some (.int .i64 s.tim.start) /\ W'.cell? ⟨b,o + k * 6 + 4,none⟩ = some (.int .i64 s.tim.len) /\ W'.cell? ⟨b,o + k * 6 + 5,none⟩ = some (.string s.room) /\ W'.cell? ⟨b,o + (k + 1) * 6,none⟩ = some (.string z.cls) /\ W'.cell? ⟨b,o + (k + 1) * 6 + 1,none⟩ = some (.int .i64 z.tim.weeks) /\ W'.cell? ⟨b,o + (k + 1) * 6 + 2,none⟩ = some (.int .i64 z.tim.day) /\ W'.cell? ⟨b,o + (k + 1) * 6 + 3,none⟩ = some (.int .i64 z.tim.start) /\ W'.cell? ⟨b,o + (k + 1) * 6 + 4,none⟩ = some (.int .i64 z.tim.len) /\ W'.cell? ⟨b,o + (k + 1) * 6 + 5,none⟩ = some (.string z.room)) (first | exact HKP.out _ (Below.refl _ _) | exact HKP.out _ (below_drw (Below.refl _ _)) | exact HKP.out _ h5 | exact HKP.out _ h6 | exact HKP.out _ h7) (first | (go_at_call 196;(with_reducible refine (HDs.out _ (below_drw (Below.refl _ _))).mono ?_);rintro e w5 ⟨rfl,h5a⟩;have h5 : Below wr.heap.size wr w5:=(below_drw (Below.refl _ wr)).trans h5a) | (go_at_call 196;(with_reducible refine (HDz.out _ h5).mono ?_);rintro e w6 ⟨rfl,h6a⟩;have h6 : Below wr.heap.size wr w6:=h5.trans (h6a.mono h5.size)) | (go_at_call 195;refine (HO.out _).mono ?_;rintro e w7 ⟨rfl,h7a⟩;have h7 : Below wr.heap.size wr w7:=h6.trans (h7a.mono h6.size)))
    have HB7:=Lh (HB.out.trans (h7.mono HB.out.size));clear h5 h6 h7 h5a h6a h7a HKP HDs HDz HO hsub hsb2 hwk hwk0 hkn hk10 hk1n;cases hbe : befB s z
    ·have hod : 0 <= od:=by have:=HBE.out;rw [hbe] at this;simp at this;omega
     have HR:=Lh (show chgV ls n = 63 from chg_ord HN.out (show ¬ 96 < (ls.length : Int) from by have:=HLN.out;omega) HSL.out (by rw [HST.out,hbe];rfl));clear hbe;go_wp2_with fail;go_ret;exact ⟨ret_int HR.out.symm,HB7.out⟩
    ·have hod : od < 0:=by have:=HBE.out;rw [hbe] at this;simp at this;omega
     have hod2 : ¬ 0 <= od:=by omega
     have HK2:=Lh (show ordB ls = ordB (ls.drop (k + 1)) from by rw [HST.out,hbe];rfl);clear hbe;go_wp2_with fail;go_roundw
     case rel => exact ⟨k + 1,by go_num,by omega,HK2,HB7⟩
     case measure => simp [intOf];omega
   have hki : ¬ (k : Int) + 1 < (ls.length : Int):=by omega
   have HOB:=Lh (show ordB ls = true from by rw [HK.out];exact ordB_end ls k (by omega));obtain ⟨wa2,hwa⟩ : ∃ q,q = wr:=⟨_,rfl⟩
   rw [<- hwa] at HB ⊢;clear hwa;go_wp2_with fail;clear hki hk hlt HK;go_loopw [56] (fun iv wr => ∃ k : Nat,iv = .int .i64 k /\ k <= ls.length /\ Hid (dupB [] ls = dupB (ls.take k) (ls.drop k)) /\ Hid (Below w.heap.size w wr)) (fun iv _ => ls.length - (intOf iv).toNat)
   case atStart => exact ⟨0,rfl,Nat.zero_le _,Lh rfl,HB⟩
   case round =>
    clear HB;obtain ⟨k,rfl,hk,HK,HB⟩:=hrel;by_cases hlt : k < ls.length
    rotate_left
    ·have hki : ¬ (k : Int) < (ls.length : Int):=by omega
     have HR:=Lh (show chgV ls n = 0 from chg_ok HN.out (show ¬ 96 < (ls.length : Int) from by have:=HLN.out;omega) HSL.out HOB.out (by rw [HK.out,List.drop_eq_nil_of_le (by omega)];rfl));go_wp2_with fail;go_ret;exact ⟨ret_int HR.out.symm,HB.out⟩
    have hki : (k : Int) < (ls.length : Int):=by omega
    have hk0 : (0 : Int) <= (k : Int):=by omega
    have hkc : (k : Int) <= (c : Int):=by omega
    have hkc2 : k <= c:=by omega
    obtain ⟨b,o,ha,hbl,hev⟩:=HS.out.form (by omega);subst ha;obtain ⟨s,hs⟩ : ∃ s,ls[k]? = some s:=⟨_,List.getElem?_eq_getElem hlt⟩
    have Hs:=Lh hs;have x0 : wr.cell? ⟨b,o + k * 6,none⟩ = some (.string s.cls):=(HB.out.cell (p:=⟨b,o + k * 6,none⟩) hbl).trans (hev k 0 s _ Hs.out rfl);have x1 : wr.cell? ⟨b,o + k * 6 + 1,none⟩ = some (.int .i64 s.tim.weeks):=(HB.out.cell (p:=⟨b,o + k * 6 + 1,none⟩) hbl).trans (hev k 1 s _ Hs.out rfl);have x2 : wr.cell? ⟨b,o + k * 6 + 2,none⟩ = some (.int .i64 s.tim.day):=(HB.out.cell (p:=⟨b,o + k * 6 + 2,none⟩) hbl).trans (hev k 2 s _ Hs.out rfl);have x3 : wr.cell? ⟨b,o + k * 6 + 3,none⟩ = some (.int .i64 s.tim.start):=(HB.out.cell (p:=⟨b,o + k * 6 + 3,none⟩) hbl).trans (hev k 3 s _ Hs.out rfl);have x4 : wr.cell? ⟨b,o + k * 6 + 4,none⟩ = some (.int .i64 s.tim.len):=(HB.out.cell (p:=⟨b,o + k * 6 + 4,none⟩) hbl).trans (hev k 4 s _ Hs.out rfl);have x5 : wr.cell? ⟨b,o + k * 6 + 5,none⟩ = some (.string s.room):=(HB.out.cell (p:=⟨b,o + k * 6 + 5,none⟩) hbl).trans (hev k 5 s _ Hs.out rfl);have HST:=Lh (HK.out.trans (dupB_step ls k s hs));have HEV:=Lh hev;clear hev hs;obtain ⟨X,hX⟩ : ∃ x,x = wr.heap.size:=⟨_,rfl⟩
    obtain ⟨w1,hw1⟩ : ∃ x,x = wr.alloc (.cells #[.string s.cls,.int .i64 s.tim.weeks,.int .i64 s.tim.day,.int .i64 s.tim.start,.int .i64 s.tim.len,.string s.room] 107):=⟨_,rfl⟩
    have HX1:=Lh (show Blk X #[.string s.cls,.int .i64 s.tim.weeks,.int .i64 s.tim.day,.int .i64 s.tim.start,.int .i64 s.tim.len,.string s.room] 107 w1 from by rw [hw1,hX];exact Blk.new wr _ _);have HB1:=Lh (show Below w.heap.size w w1 from by rw [hw1];exact HB.out.alloc HB.out.size _);go_upto_region 20 with (fail);rw [<- hw1,<- hX];clear hw1 hX x0 x1 x2 x3 x4 x5;go_wp2_with fail;go_loopw [65] (fun jv w2 => ∃ j : Nat,jv = .int .i64 j /\ j <= k /\ Hid (dupB [] ls = (((ls.take k).drop j).any (twiceB s) || dupB (ls.take (k + 1)) (ls.drop (k + 1)))) /\ Hid (Below w1.heap.size w1 w2)) (fun jv _ => k - (intOf jv).toNat)
    case atStart => exact ⟨0,rfl,Nat.zero_le _,HST,Lh (Below.refl _ _)⟩
    case round =>
     obtain ⟨j,rfl,hj,HJ,HW⟩:=hrel;by_cases hjt : j < k
     rotate_left
     ·have hji : ¬ (j : Int) < (k : Int):=by omega
      have HK2:=Lh (show dupB [] ls = dupB (ls.take (k + 1)) (ls.drop (k + 1)) from by rw [HJ.out,List.drop_eq_nil_of_le (by rw [List.length_take];omega)];rfl);have HB2:=Lh (HB1.out.trans (HW.out.mono HB1.out.size));go_wp2_with fail;go_roundw
      case rel => exact ⟨k + 1,by go_num,by omega,HK2,HB2⟩
      case measure => simp [intOf];omega
     have hji : (j : Int) < (k : Int):=by omega
     have hj0 : (0 : Int) <= (j : Int):=by omega
     obtain ⟨z,hz⟩ : ∃ z,ls[j]? = some z:=⟨_,List.getElem?_eq_getElem (by omega)⟩
     have Hz:=Lh hz;have HB2:=Lh (HB1.out.trans (HW.out.mono HB1.out.size));have hev:=HEV.out;have y0 : wr.cell? ⟨b,o + j * 6,none⟩ = some (.string z.cls):=(HB2.out.cell (p:=⟨b,o + j * 6,none⟩) hbl).trans (hev j 0 z _ Hz.out rfl);have y1 : wr.cell? ⟨b,o + j * 6 + 1,none⟩ = some (.int .i64 z.tim.weeks):=(HB2.out.cell (p:=⟨b,o + j * 6 + 1,none⟩) hbl).trans (hev j 1 z _ Hz.out rfl);have y2 : wr.cell? ⟨b,o + j * 6 + 2,none⟩ = some (.int .i64 z.tim.day):=(HB2.out.cell (p:=⟨b,o + j * 6 + 2,none⟩) hbl).trans (hev j 2 z _ Hz.out rfl);have y3 : wr.cell? ⟨b,o + j * 6 + 3,none⟩ = some (.int .i64 z.tim.start):=(HB2.out.cell (p:=⟨b,o + j * 6 + 3,none⟩) hbl).trans (hev j 3 z _ Hz.out rfl);have y4 : wr.cell? ⟨b,o + j * 6 + 4,none⟩ = some (.int .i64 z.tim.len):=(HB2.out.cell (p:=⟨b,o + j * 6 + 4,none⟩) hbl).trans (hev j 4 z _ Hz.out rfl);have y5 : wr.cell? ⟨b,o + j * 6 + 5,none⟩ = some (.string z.room):=(HB2.out.cell (p:=⟨b,o + j * 6 + 5,none⟩) hbl).trans (hev j 5 z _ Hz.out rfl);have HJ2:=Lh (show dupB [] ls = (meetB s z || likeB s z || (((ls.take k).drop (j + 1)).any (twiceB s) || dupB (ls.take (k + 1)) (ls.drop (k + 1)))) from by rw [HJ.out,any_step (twiceB s) ls k j z hz hjt,Bool.or_assoc];rfl);clear hev hz;obtain ⟨Z,hZ⟩ : ∃ x,x = wr.heap.size:=⟨_,rfl⟩
     obtain ⟨w3,hw3⟩ : ∃ x,x = wr.alloc (.cells #[.string z.cls,.int .i64 z.tim.weeks,.int .i64 z.tim.day,.int .i64 z.tim.start,.int .i64 z.tim.len,.string z.room] 107):=⟨_,rfl⟩
     have HZ3:=Lh (show Blk Z #[.string z.cls,.int .i64 z.tim.weeks,.int .i64 z.tim.day,.int .i64 z.tim.start,.int .i64 z.tim.len,.string z.room] 107 w3 from by rw [hw3,hZ];exact Blk.new wr _ _);have HW3:=Lh (show Below w1.heap.size w1 w3 from by rw [hw3];exact HW.out.alloc HW.out.size _);go_upto_region 23 with (fail);rw [<- hw3,<- hZ];clear hw3 hZ y0 y1 y2 y3 y4 y5;have HX3:=Lh (HX1.out.below HW3.out HX1.out.lt);have x0 : w3.cell? ⟨X,0,none⟩ = some (.string s.cls):=HX3.out.cell 0;have x1 : w3.cell? ⟨X,1,none⟩ = some (.int .i64 s.tim.weeks):=HX3.out.cell 1;have x2 : w3.cell? ⟨X,2,none⟩ = some (.int .i64 s.tim.day):=HX3.out.cell 2;have x3 : w3.cell? ⟨X,3,none⟩ = some (.int .i64 s.tim.start):=HX3.out.cell 3;have x4 : w3.cell? ⟨X,4,none⟩ = some (.int .i64 s.tim.len):=HX3.out.cell 4;have x5 : w3.cell? ⟨X,5,none⟩ = some (.string s.room):=HX3.out.cell 5;have y0 : w3.cell? ⟨Z,0,none⟩ = some (.string z.cls):=HZ3.out.cell 0;have y1 : w3.cell? ⟨Z,1,none⟩ = some (.int .i64 z.tim.weeks):=HZ3.out.cell 1;have y2 : w3.cell? ⟨Z,2,none⟩ = some (.int .i64 z.tim.day):=HZ3.out.cell 2;have y3 : w3.cell? ⟨Z,3,none⟩ = some (.int .i64 z.tim.start):=HZ3.out.cell 3;have y4 : w3.cell? ⟨Z,4,none⟩ = some (.int .i64 z.tim.len):=HZ3.out.cell 4;have y5 : w3.cell? ⟨Z,5,none⟩ = some (.string z.room):=HZ3.out.cell 5;have HC:=Lh (meet197 s z w3);unfold sesVal sesCells at HC;obtain ⟨M,hM⟩ : ∃ m,m = meetB s z:=⟨_,rfl⟩
     rw [<- hM] at HC HJ2;clear hM;go_wp2_with fail;refine HC.out.mono ?_;clear HC;rintro e w4 ⟨rfl,hb⟩;have HW4:=Lh (HW3.out.trans (hb.mono HW3.out.size));have HX4:=Lh (HX3.out.below hb HX3.out.lt);have HZ4:=Lh (HZ3.out.below hb HZ3.out.lt);clear hb x0 y0 x1 y1 x2 y2 x3 y3 x4 y4 x5 y5;cases M;rotate_left
     ·have HR:=Lh (show chgV ls n = 11 from chg_dup HN.out (show ¬ 96 < (ls.length : Int) from by have:=HLN.out;omega) HSL.out HOB.out (by rw [HJ2.out];rfl));have HB4:=Lh (HB1.out.trans (HW4.out.mono HB1.out.size));go_wp2_with fail;go_ret;exact ⟨ret_int HR.out.symm,HB4.out⟩
     have x0 : w4.cell? ⟨X,0,none⟩ = some (.string s.cls):=HX4.out.cell 0;have x1 : w4.cell? ⟨X,1,none⟩ = some (.int .i64 s.tim.weeks):=HX4.out.cell 1;have x2 : w4.cell? ⟨X,2,none⟩ = some (.int .i64 s.tim.day):=HX4.out.cell 2;have x3 : w4.cell? ⟨X,3,none⟩ = some (.int .i64 s.tim.start):=HX4.out.cell 3;have x4 : w4.cell? ⟨X,4,none⟩ = some (.int .i64 s.tim.len):=HX4.out.cell 4;have x5 : w4.cell? ⟨X,5,none⟩ = some (.string s.room):=HX4.out.cell 5;have y0 : w4.cell? ⟨Z,0,none⟩ = some (.string z.cls):=HZ4.out.cell 0;have y1 : w4.cell? ⟨Z,1,none⟩ = some (.int .i64 z.tim.weeks):=HZ4.out.cell 1;have y2 : w4.cell? ⟨Z,2,none⟩ = some (.int .i64 z.tim.day):=HZ4.out.cell 2;have y3 : w4.cell? ⟨Z,3,none⟩ = some (.int .i64 z.tim.start):=HZ4.out.cell 3;have y4 : w4.cell? ⟨Z,4,none⟩ = some (.int .i64 z.tim.len):=HZ4.out.cell 4;have y5 : w4.cell? ⟨Z,5,none⟩ = some (.string z.room):=HZ4.out.cell 5;have HC:=Lh (alike198 s z w4);unfold sesVal sesCells at HC;obtain ⟨K,hK⟩ : ∃ m,m = likeB s z:=⟨_,rfl⟩
     rw [<- hK] at HC HJ2;clear hK;go_wp2_with fail;refine HC.out.mono ?_;clear HC;rintro e w5 ⟨rfl,hb⟩;have HW5:=Lh (HW4.out.trans (hb.mono HW4.out.size));clear hb x0 y0 x1 y1 x2 y2 x3 y3 x4 y4 x5 y5;cases K;rotate_left
     ·have HR:=Lh (show chgV ls n = 11 from chg_dup HN.out (show ¬ 96 < (ls.length : Int) from by have:=HLN.out;omega) HSL.out HOB.out (by rw [HJ2.out];rfl));have HB5:=Lh (HB1.out.trans (HW5.out.mono HB1.out.size));go_wp2_with fail;go_ret;exact ⟨ret_int HR.out.symm,HB5.out⟩
     have HJ3:=Lh (show dupB [] ls = (((ls.take k).drop (j + 1)).any (twiceB s) || dupB (ls.take (k + 1)) (ls.drop (k + 1))) from HJ2.out);go_wp2_with fail;go_roundw
     case rel => exact ⟨j + 1,by go_num,by omega,HJ3,HW5⟩
     case measure => simp [intOf];omega
def chgsV (n : Int) : List (List Ses) -> Int
 | [] => 0
 | l :: r => if chgV l n ≠ 0 then chgV l n else chgsV n r
theorem chgsV_step (n : Int) (ls : List (List Ses)) (k : Nat) (l : List Ses) (h : ls[k]? = some l) : chgsV n (ls.drop k) = if chgV l n ≠ 0 then chgV l n else chgsV n (ls.drop (k + 1)):=by
 obtain ⟨h1,h2⟩:=List.getElem?_eq_some_iff.1 h;rw [List.drop_eq_getElem_cons h1,h2];rfl
theorem chgsV_each (n : Int) : ∀ (ls : List (List Ses)),chgsV n ls = 0 -> ∀ l ∈ ls,chgV l n = 0
 | [],_,l,hl => by cases hl
 | a :: r,h,l,hl => by
  unfold chgsV at h;by_cases h1 : chgV a n ≠ 0
  ·rw [if_pos h1] at h;exact absurd h h1
  ·rw [if_neg h1] at h;rcases List.mem_cons.1 hl with rfl | hl
   ·simpa using h1
   ·exact chgsV_each n r h l hl
theorem chgV_len {l : List Ses} {n : Int} (h : chgV l n = 0) : l.length <= 96:=by
 unfold chgV at h;split at h
 ·cases h
 ·split at h
  ·cases h
  ·rename_i h2;omega
def makC (g : Tt.Grd) (t : Tt.Trm) (nm : ByteArray) (ls : List (List Ses)) : Int :=
 if Tt.gridV g ≠ 0 ∨ Tt.trmV t ≠ 0 then 1 else if Tt.code nm.data.toList = false then 10 else if 64 < (ls.length : Int) then 2 else if chgsV t.weeks ls ≠ 0 then chgsV t.weeks ls else if 256 < ((makeE g t 1 ls []).length : Int) then 2 else 0
def makF (g : Tt.Grd) (t : Tt.Trm) (nm : ByteArray) (ls : List (List Ses)) : ByteArray × Int × List Ev :=
 if makC g t nm ls = 0 then (nm,(ls.length : Int),makeE g t 1 ls []) else (⟨#[]⟩,0,[])
theorem makC_1 {g : Tt.Grd} {t : Tt.Trm} {nm : ByteArray} {ls : List (List Ses)} (h : Tt.gridV g ≠ 0 ∨ Tt.trmV t ≠ 0) : makC g t nm ls = 1:=if_pos h
theorem makC_10 {g : Tt.Grd} {t : Tt.Trm} {nm : ByteArray} {ls : List (List Ses)} (h1 : Tt.gridV g = 0) (h2 : Tt.trmV t = 0) (h : Tt.code nm.data.toList = false) : makC g t nm ls = 10:=(if_neg (by simp [h1,h2])).trans (if_pos h)
theorem makC_2 {g : Tt.Grd} {t : Tt.Trm} {nm : ByteArray} {ls : List (List Ses)} (h1 : Tt.gridV g = 0) (h2 : Tt.trmV t = 0) (h3 : Tt.code nm.data.toList = true) (h : 64 < (ls.length : Int)) : makC g t nm ls = 2:=(if_neg (by simp [h1,h2])).trans ((if_neg (by simp [h3])).trans (if_pos h))
theorem makC_c {g : Tt.Grd} {t : Tt.Trm} {nm : ByteArray} {ls : List (List Ses)} (h1 : Tt.gridV g = 0) (h2 : Tt.trmV t = 0) (h3 : Tt.code nm.data.toList = true) (h4 : ¬ 64 < (ls.length : Int)) (h : chgsV t.weeks ls ≠ 0) : makC g t nm ls = chgsV t.weeks ls:=(if_neg (by simp [h1,h2])).trans ((if_neg (by simp [h3])).trans ((if_neg h4).trans (if_pos h)))
theorem makC_n {g : Tt.Grd} {t : Tt.Trm} {nm : ByteArray} {ls : List (List Ses)} (h1 : Tt.gridV g = 0) (h2 : Tt.trmV t = 0) (h3 : Tt.code nm.data.toList = true) (h4 : ¬ 64 < (ls.length : Int)) (h5 : chgsV t.weeks ls = 0) (h : 256 < ((makeE g t 1 ls []).length : Int)) : makC g t nm ls = 2:=(if_neg (by simp [h1,h2])).trans ((if_neg (by simp [h3])).trans ((if_neg h4).trans ((if_neg (by simp [h5])).trans (if_pos h))))
theorem makC_0 {g : Tt.Grd} {t : Tt.Trm} {nm : ByteArray} {ls : List (List Ses)} (h1 : Tt.gridV g = 0) (h2 : Tt.trmV t = 0) (h3 : Tt.code nm.data.toList = true) (h4 : ¬ 64 < (ls.length : Int)) (h5 : chgsV t.weeks ls = 0) (h : ¬ 256 < ((makeE g t 1 ls []).length : Int)) : makC g t nm ls = 0:=(if_neg (by simp [h1,h2])).trans ((if_neg (by simp [h3])).trans ((if_neg h4).trans ((if_neg (by simp [h5])).trans (if_neg h))))
def MakR (g : Tt.Grd) (t : Tt.Trm) (nm : ByteArray) (ls : List (List Ses)) (lo : Nat) (e : Ending) (w' : World) : Prop :=
 ∃ v ts,e = .returned (.tuple #[.agg #[.string (makF g t nm ls).1,.int .i64 (makF g t nm ls).2.1,v],.int .i64 (makC g t nm ls)]) /\ RowT lo w' v ts /\ ts.map (·.1) = (makF g t nm ls).2.2
theorem makR_bad {g : Tt.Grd} {t : Tt.Trm} {nm : ByteArray} {ls : List (List Ses)} {lo : Nat} {w' : World} {c : Int} (h : makC g t nm ls = c) (h0 : c ≠ 0) : MakR g t nm ls lo (.returned (.tuple #[.agg #[.string ⟨#[]⟩,.int .i64 0,.slice none 0 0],.int .i64 c])) w':=by
 have hF : makF g t nm ls = (⟨#[]⟩,0,[]):=if_neg (by rw [h];exact h0);refine ⟨.slice none 0 0,[],?_,RowT.nil _ _,?_⟩
 ·rw [hF,h]
 ·rw [hF];rfl
theorem makR_ok {g : Tt.Grd} {t : Tt.Trm} {nm : ByteArray} {ls : List (List Ses)} {lo : Nat} {w' : World} {v : Value} {ts : List (Ev × Value × Value)} (h : makC g t nm ls = 0) (hr : RowT lo w' v ts) (he : ts.map (·.1) = makeE g t 1 ls []) : MakR g t nm ls lo (.returned (.tuple #[.agg #[.string nm,.int .i64 (ls.length : Int),v],.int .i64 0])) w':=by
 have hF : makF g t nm ls = (nm,(ls.length : Int),makeE g t 1 ls []):=if_pos h;refine ⟨v,ts,?_,hr,?_⟩
 ·rw [hF,h]
 ·rw [hF];exact he
def LstAt (B : Nat) (w : World) (ao : Option Addr) (ls : List (List Ses)) : Prop :=
 ls = [] ∨ ∃ b o,ao = some ⟨b,o,none⟩ /\ b < B /\ ∀ (j : Nat) (l : List Ses),ls[j]? = some l -> ∃ p c,w.cell? ⟨b,o + j,none⟩ = some (.slice p l.length c) /\ l.length <= c /\ c <= 9223372036854775807 /\ l.length <= 100000 /\ SesAt B w p l
theorem LstAt.below {B : Nat} {w w' : World} {ao : Option Addr} {ls : List (List Ses)} (h : LstAt B w ao ls) (hb : Below B w w') : LstAt B w' ao ls:=by
 rcases h with h | ⟨b,o,h1,h2,h3⟩
 ·exact .inl h
 ·refine .inr ⟨b,o,h1,h2,fun j l hl => ?_⟩;obtain ⟨p,c,k1,k2,k3,k4,k5⟩:=h3 j l hl;exact ⟨p,c,(hb.cell (p:=⟨b,o + j,none⟩) h2).trans k1,k2,k3,k4,k5.below hb⟩
theorem LstAt.mono {B B' : Nat} {w : World} {ao : Option Addr} {ls : List (List Ses)} (h : LstAt B w ao ls) (hB : B <= B') : LstAt B' w ao ls:=by
 rcases h with h | ⟨b,o,h1,h2,h3⟩
 ·exact .inl h
 ·refine .inr ⟨b,o,h1,by omega,fun j l hl => ?_⟩;obtain ⟨p,c,k1,k2,k3,k4,k5⟩:=h3 j l hl;exact ⟨p,c,k1,k2,k3,k4,k5.mono hB⟩
theorem LstAt.at_ {B : Nat} {w : World} {ao : Option Addr} {ls : List (List Ses)} (h : LstAt B w ao ls) {j : Nat} {l : List Ses} (hl : ls[j]? = some l) : ∃ b o p c,ao = some ⟨b,o,none⟩ /\ b < B /\ w.cell? ⟨b,o + j,none⟩ = some (.slice p l.length c) /\ l.length <= c /\ c <= 9223372036854775807 /\ l.length <= 100000 /\ SesAt B w p l:=by
 rcases h with h | ⟨b,o,h1,h2,h3⟩
 ·subst h;cases hl
 ·obtain ⟨p,c,k1,k2,k3,k4,k5⟩:=h3 j l hl;exact ⟨b,o,p,c,h1,h2,k1,k2,k3,k4,k5⟩
theorem makeE_take (g : Tt.Grd) (t : Tt.Trm) (ls : List (List Ses)) (k : Nat) (l : List Ses) (h : ls[k]? = some l) : makeE g t 1 (ls.take (k + 1)) [] = advV g t ((k : Int) + 1) l (makeE g t 1 (ls.take k) []):=by
 obtain ⟨h1,h2⟩:=List.getElem?_eq_some_iff.1 h;rw [List.take_add_one,h,Option.toList_some,makeE_snoc,List.length_take,Nat.min_eq_left (Nat.le_of_lt h1)];congr 1
 omega
theorem AscU_makeE (g : Tt.Grd) (t : Tt.Trm) : ∀ (ls : List (List Ses)) (k : Int) (es : List Ev),AscU es -> AscU (makeE g t k ls es)
 | [],_,_,h => h
 | l :: r,k,es,h => by
  rw [makeE];refine AscU_makeE g t r _ _ ?_;unfold advV;refine AscU.gone ?_;have : ∀ (fs es : List Ev),AscU es -> AscU (fs.foldl (advS k) es):=by
   intro fs;induction fs with
   | nil => intro es h;exact h
   | cons f r ih => intro es h;exact ih _ h.adv
  exact this _ _ h
theorem AscU.same : ∀ {xs ys : List Ev},AscU xs -> AscU ys -> xs.Perm ys -> xs = ys
 | [],ys,_,_,hp => (List.nil_perm.1 hp).symm
 | x :: r,[],_,_,hp => by have:=hp.length_eq;simp at this
 | x :: r,y :: q,hx,hy,hp => by
  obtain ⟨h1,h2⟩:=List.pairwise_cons.1 hx;obtain ⟨k1,k2⟩:=List.pairwise_cons.1 hy;have he : x = y:=by
   rcases List.mem_cons.1 (hp.mem_iff.1 (List.mem_cons_self (a:=x) (l:=r))) with e | hm
   ·exact e
   ·rcases List.mem_cons.1 (hp.mem_iff.2 (List.mem_cons_self (a:=y) (l:=q))) with e | hn
    ·exact e.symm
    ·have a:=k1 x hm;have b:=h1 y hn;have:=lessU_trans a b;rw [lessU_irrefl] at this;cases this
  subst he;rw [AscU.same h2 k2 (List.perm_cons _ |>.1 hp)]
theorem fillS {b g : Nat} {ty : TypeId} {cs : Array Value} {w0 w : World} (h : Blk g cs ty w) (hs : Sofar b w0 w) (hg : w0.heap.size <= g) (hb : b < g) (vs : List Value) (hl : cs.size = vs.length) : ∃ Y,Y = setAll w g 0 vs /\ Blk g vs.toArray ty Y /\ Sofar b w0 Y:=by
 refine ⟨_,rfl,?_,⟨but_setAll hg vs 0 w hs.but,dice_setAll hb vs 0 w hs.dice⟩⟩;have:=Blk.puts (g:=g) (ty:=ty) vs [] cs.toList [] w (by simpa using h) (by simpa using hl);simpa using this
theorem Tt.grid_ok {a b c d : Int} (a0 : 0 <= a) (a1 : a < 5) (b0 : 0 <= b) (b1 : b < 7) (c0 : 0 <= c) (c1 : c < 8) (d0 : 0 <= d) (d1 : d < 3) : Tt.gridV ⟨1 + a,2 + b,480 + 15 * c,30 + 15 * d⟩ = 0:=by
 have h1 : (2 + b) * (30 + 15 * d) <= 8 * 60:=Int.le_trans (Int.mul_le_mul_of_nonneg_right (show 2 + b <= 8 by omega) (by omega)) (Int.mul_le_mul_of_nonneg_left (show 30 + 15 * d <= 60 by omega) (by omega));unfold Tt.gridV;rw [if_neg];show ¬ (1 + a < 1 ∨ 7 < 1 + a ∨ 2 + b < 1 ∨ 24 < 2 + b ∨ 480 + 15 * c < 0 ∨ 1440 <= 480 + 15 * c ∨ 30 + 15 * d < 5 ∨ 120 < 30 + 15 * d ∨ 1440 < 480 + 15 * c + (2 + b) * (30 + 15 * d))
 omega
theorem grid60v (b : Nat) (w : World) (hd : Dice b w) : Calls Tryz.prog 60 #[.pointer (some ⟨b,0,none⟩)] w fun e w' => ∃ g : Tt.Grd,e = .returned (grdVal g) /\ Tt.gridV g = 0 /\ 1 <= g.days /\ g.days <= 5 /\ 2 <= g.slots /\ g.slots <= 8 /\ Sofar b w w':=by
 have hblt:=hd.lt;obtain ⟨R,hR⟩ : ∃ g,g = w.heap.size:=⟨_,rfl⟩
 obtain ⟨w0,hw0⟩ : ∃ X,X = (w.alloc (.cells #[.int .i64 0,.int .i64 0,.int .i64 0,.int .i64 0] 90)):=⟨_,rfl⟩
 have HS_w0:=Lh (show Sofar b w w0 from by rw [hw0];exact ((Sofar.refl hd).alloc _));have HR_w0:=Lh (show Blk R #[.int .i64 0,.int .i64 0,.int .i64 0,.int .i64 0] 90 w0 from by rw [hw0,hR];exact Blk.new' _ _ _ (by simp));have lR : w.heap.size <= R:=by omega
 have bR : b < R:=by omega
 go_enter Tryz.func60,Tryz.ntmps60;go_upto_region 1 with (fail);rw [<- hw0,<- hR];clear hw0 hR;go_wp2_with fail;refine (next_any b 5 _ HS_w0.out.dice (by omega) (by omega)).mono ?_;rintro e w1 ⟨a1,rfl,l1,u1, -,hd,ho⟩;have u1:=u1 (by omega);have HS_w1:=Lh (HS_w0.out.only hd ho);have HR_w1:=Lh (HR_w0.out.only ho (by omega));clear hd ho HS_w0 HR_w0;go_wp2_with fail;refine (next_any b 7 _ HS_w1.out.dice (by omega) (by omega)).mono ?_;rintro e w2 ⟨a2,rfl,l2,u2, -,hd,ho⟩;have u2:=u2 (by omega);have HS_w2:=Lh (HS_w1.out.only hd ho);have HR_w2:=Lh (HR_w1.out.only ho (by omega));clear hd ho HS_w1 HR_w1;go_wp2_with fail;refine (next_any b 8 _ HS_w2.out.dice (by omega) (by omega)).mono ?_;rintro e w3 ⟨a3,rfl,l3,u3, -,hd,ho⟩;have u3:=u3 (by omega);have HS_w3:=Lh (HS_w2.out.only hd ho);have HR_w3:=Lh (HR_w2.out.only ho (by omega));clear hd ho HS_w2 HR_w2;go_wp2_with fail;refine (next_any b 3 _ HS_w3.out.dice (by omega) (by omega)).mono ?_;rintro e w4 ⟨a4,rfl,l4,u4, -,hd,ho⟩;have u4:=u4 (by omega);have HS_w4:=Lh (HS_w3.out.only hd ho);have HR_w4:=Lh (HR_w3.out.only ho (by omega));clear hd ho HS_w3 HR_w3;have cR0 : w4.cell? ⟨R,0,none⟩ = some (.int .i64 0):=HR_w4.out.cell 0;have cR1 : w4.cell? ⟨R,1,none⟩ = some (.int .i64 0):=HR_w4.out.cell 1;have cR2 : w4.cell? ⟨R,2,none⟩ = some (.int .i64 0):=HR_w4.out.cell 2;have cR3 : w4.cell? ⟨R,3,none⟩ = some (.int .i64 0):=HR_w4.out.cell 3;have fR0:=HR_w4.out.frozen 0;have fR1:=HR_w4.out.frozen 1;have fR2:=HR_w4.out.frozen 2;have fR3:=HR_w4.out.frozen 3;go_wp2_with fail;obtain ⟨Y,hY,hBk,hE⟩:=fillS HR_w4.out HS_w4.out lR (by omega) [.int .i64 (1 + a1),.int .i64 (2 + a2),.int .i64 (480 + 15 * a3),.int .i64 (30 + 15 * a4)] rfl;simp only [setAll,Nat.zero_add] at hY;rw [<- hY];clear cR0 cR1 cR2 cR3 fR0 fR1 fR2 fR3;clear hY;have r0:=hBk.cell 0;have r1:=hBk.cell 1;have r2:=hBk.cell 2;have r3:=hBk.cell 3;simp only [List.getElem?_toArray,List.getElem?_cons_zero,List.getElem?_cons_succ] at r0 r1 r2 r3;refine bodyPost_ret (v:=.agg #[.int .i64 (1 + a1),.int .i64 (2 + a2),.int .i64 (480 + 15 * a3),.int .i64 (30 + 15 * a4)]) (by simp [results,Tryz.results60,go_sem,r0,r1,r2,r3]) rfl ?_;exact ⟨⟨1 + a1,2 + a2,480 + 15 * a3,30 + 15 * a4⟩,rfl,Tt.grid_ok l1 u1 l2 u2 l3 u3 l4 u4,by show 1 <= 1 + a1;omega,by show 1 + a1 <= 5;omega,by show 2 <= 2 + a2;omega,by show 2 + a2 <= 8;omega,hE⟩
theorem set143_1 (b : Nat) (w : World) (hd : Dice b w) : Calls Tryz.prog 143 #[.pointer (some ⟨b,0,none⟩),.int .i64 1] w fun e w' => ∃ x : Int,e = .returned (.int .i64 x) /\ 1 <= x /\ x < 2 /\ Sofar b w w':=by
 have HS_w:=Lh (Sofar.refl hd);go_enter Tryz.func143,Tryz.ntmps143;go_wp2_with fail;refine (next_any b 4 _ HS_w.out.dice (by omega) (by omega)).mono ?_;rintro e w1 ⟨a1,rfl,l1,u1, -,hd,ho⟩;have u1:=u1 (by omega);have HS_w1:=Lh (HS_w.out.only hd ho);clear hd ho HS_w ;rcases (show a1 = 0 ∨ a1 = 1 ∨ 2 <= a1 by omega) with rfl | rfl | h2
 ·go_wp2_with fail;go_ret;exact ⟨_,rfl,by decide,by decide,HS_w1.out⟩
 ·go_wp2_with fail;go_ret;exact ⟨_,rfl,by decide,by decide,HS_w1.out⟩
 ·have g0 : (a1 == 0) = false:=beq_eq_false_iff_ne.2 (by omega);have g1 : (a1 == 1) = false:=beq_eq_false_iff_ne.2 (by omega);go_wp2_with fail;refine (next_any b 1 _ HS_w1.out.dice (by omega) (by omega)).mono ?_;rintro e w2 ⟨a2,rfl,l2,u2, -,hd,ho⟩;have u2:=u2 (by omega);have HS_w2:=Lh (HS_w1.out.only hd ho);clear hd ho HS_w1 ;go_wp2_with fail;go_ret;exact ⟨_,rfl,by omega,by omega,HS_w2.out⟩
theorem set143_2 (b : Nat) (w : World) (hd : Dice b w) : Calls Tryz.prog 143 #[.pointer (some ⟨b,0,none⟩),.int .i64 2] w fun e w' => ∃ x : Int,e = .returned (.int .i64 x) /\ 1 <= x /\ x < 4 /\ Sofar b w w':=by
 have HS_w:=Lh (Sofar.refl hd);go_enter Tryz.func143,Tryz.ntmps143;go_wp2_with fail;refine (next_any b 4 _ HS_w.out.dice (by omega) (by omega)).mono ?_;rintro e w1 ⟨a1,rfl,l1,u1, -,hd,ho⟩;have u1:=u1 (by omega);have HS_w1:=Lh (HS_w.out.only hd ho);clear hd ho HS_w ;rcases (show a1 = 0 ∨ a1 = 1 ∨ 2 <= a1 by omega) with rfl | rfl | h2
 ·go_wp2_with fail;go_ret;exact ⟨_,rfl,by decide,by decide,HS_w1.out⟩
 ·go_wp2_with fail;go_ret;exact ⟨_,rfl,by decide,by decide,HS_w1.out⟩
 ·have g0 : (a1 == 0) = false:=beq_eq_false_iff_ne.2 (by omega);have g1 : (a1 == 1) = false:=beq_eq_false_iff_ne.2 (by omega);go_wp2_with fail;refine (next_any b 3 _ HS_w1.out.dice (by omega) (by omega)).mono ?_;rintro e w2 ⟨a2,rfl,l2,u2, -,hd,ho⟩;have u2:=u2 (by omega);have HS_w2:=Lh (HS_w1.out.only hd ho);clear hd ho HS_w1 ;go_wp2_with fail;go_ret;exact ⟨_,rfl,by omega,by omega,HS_w2.out⟩
theorem set143_3 (b : Nat) (w : World) (hd : Dice b w) : Calls Tryz.prog 143 #[.pointer (some ⟨b,0,none⟩),.int .i64 3] w fun e w' => ∃ x : Int,e = .returned (.int .i64 x) /\ 1 <= x /\ x < 8 /\ Sofar b w w':=by
 have HS_w:=Lh (Sofar.refl hd);go_enter Tryz.func143,Tryz.ntmps143;go_wp2_with fail;refine (next_any b 4 _ HS_w.out.dice (by omega) (by omega)).mono ?_;rintro e w1 ⟨a1,rfl,l1,u1, -,hd,ho⟩;have u1:=u1 (by omega);have HS_w1:=Lh (HS_w.out.only hd ho);clear hd ho HS_w ;rcases (show a1 = 0 ∨ a1 = 1 ∨ 2 <= a1 by omega) with rfl | rfl | h2
 ·go_wp2_with fail;go_ret;exact ⟨_,rfl,by decide,by decide,HS_w1.out⟩
 ·go_wp2_with fail;go_ret;exact ⟨_,rfl,by decide,by decide,HS_w1.out⟩
 ·have g0 : (a1 == 0) = false:=beq_eq_false_iff_ne.2 (by omega);have g1 : (a1 == 1) = false:=beq_eq_false_iff_ne.2 (by omega);go_wp2_with fail;refine (next_any b 7 _ HS_w1.out.dice (by omega) (by omega)).mono ?_;rintro e w2 ⟨a2,rfl,l2,u2, -,hd,ho⟩;have u2:=u2 (by omega);have HS_w2:=Lh (HS_w1.out.only hd ho);clear hd ho HS_w1 ;go_wp2_with fail;go_ret;exact ⟨_,rfl,by omega,by omega,HS_w2.out⟩
theorem set143_4 (b : Nat) (w : World) (hd : Dice b w) : Calls Tryz.prog 143 #[.pointer (some ⟨b,0,none⟩),.int .i64 4] w fun e w' => ∃ x : Int,e = .returned (.int .i64 x) /\ 1 <= x /\ x < 16 /\ Sofar b w w':=by
 have HS_w:=Lh (Sofar.refl hd);go_enter Tryz.func143,Tryz.ntmps143;go_wp2_with fail;refine (next_any b 4 _ HS_w.out.dice (by omega) (by omega)).mono ?_;rintro e w1 ⟨a1,rfl,l1,u1, -,hd,ho⟩;have u1:=u1 (by omega);have HS_w1:=Lh (HS_w.out.only hd ho);clear hd ho HS_w ;rcases (show a1 = 0 ∨ a1 = 1 ∨ 2 <= a1 by omega) with rfl | rfl | h2
 ·go_wp2_with fail;go_ret;exact ⟨_,rfl,by decide,by decide,HS_w1.out⟩
 ·go_wp2_with fail;go_ret;exact ⟨_,rfl,by decide,by decide,HS_w1.out⟩
 ·have g0 : (a1 == 0) = false:=beq_eq_false_iff_ne.2 (by omega);have g1 : (a1 == 1) = false:=beq_eq_false_iff_ne.2 (by omega);go_wp2_with fail;refine (next_any b 15 _ HS_w1.out.dice (by omega) (by omega)).mono ?_;rintro e w2 ⟨a2,rfl,l2,u2, -,hd,ho⟩;have u2:=u2 (by omega);have HS_w2:=Lh (HS_w1.out.only hd ho);clear hd ho HS_w1 ;go_wp2_with fail;go_ret;exact ⟨_,rfl,by omega,by omega,HS_w2.out⟩
theorem set143_5 (b : Nat) (w : World) (hd : Dice b w) : Calls Tryz.prog 143 #[.pointer (some ⟨b,0,none⟩),.int .i64 5] w fun e w' => ∃ x : Int,e = .returned (.int .i64 x) /\ 1 <= x /\ x < 32 /\ Sofar b w w':=by
 have HS_w:=Lh (Sofar.refl hd);go_enter Tryz.func143,Tryz.ntmps143;go_wp2_with fail;refine (next_any b 4 _ HS_w.out.dice (by omega) (by omega)).mono ?_;rintro e w1 ⟨a1,rfl,l1,u1, -,hd,ho⟩;have u1:=u1 (by omega);have HS_w1:=Lh (HS_w.out.only hd ho);clear hd ho HS_w ;rcases (show a1 = 0 ∨ a1 = 1 ∨ 2 <= a1 by omega) with rfl | rfl | h2
 ·go_wp2_with fail;go_ret;exact ⟨_,rfl,by decide,by decide,HS_w1.out⟩
 ·go_wp2_with fail;go_ret;exact ⟨_,rfl,by decide,by decide,HS_w1.out⟩
 ·have g0 : (a1 == 0) = false:=beq_eq_false_iff_ne.2 (by omega);have g1 : (a1 == 1) = false:=beq_eq_false_iff_ne.2 (by omega);go_wp2_with fail;refine (next_any b 31 _ HS_w1.out.dice (by omega) (by omega)).mono ?_;rintro e w2 ⟨a2,rfl,l2,u2, -,hd,ho⟩;have u2:=u2 (by omega);have HS_w2:=Lh (HS_w1.out.only hd ho);clear hd ho HS_w1 ;go_wp2_with fail;go_ret;exact ⟨_,rfl,by omega,by omega,HS_w2.out⟩
theorem set143_6 (b : Nat) (w : World) (hd : Dice b w) : Calls Tryz.prog 143 #[.pointer (some ⟨b,0,none⟩),.int .i64 6] w fun e w' => ∃ x : Int,e = .returned (.int .i64 x) /\ 1 <= x /\ x < 64 /\ Sofar b w w':=by
 have HS_w:=Lh (Sofar.refl hd);go_enter Tryz.func143,Tryz.ntmps143;go_wp2_with fail;refine (next_any b 4 _ HS_w.out.dice (by omega) (by omega)).mono ?_;rintro e w1 ⟨a1,rfl,l1,u1, -,hd,ho⟩;have u1:=u1 (by omega);have HS_w1:=Lh (HS_w.out.only hd ho);clear hd ho HS_w ;rcases (show a1 = 0 ∨ a1 = 1 ∨ 2 <= a1 by omega) with rfl | rfl | h2
 ·go_wp2_with fail;go_ret;exact ⟨_,rfl,by decide,by decide,HS_w1.out⟩
 ·go_wp2_with fail;go_ret;exact ⟨_,rfl,by decide,by decide,HS_w1.out⟩
 ·have g0 : (a1 == 0) = false:=beq_eq_false_iff_ne.2 (by omega);have g1 : (a1 == 1) = false:=beq_eq_false_iff_ne.2 (by omega);go_wp2_with fail;refine (next_any b 63 _ HS_w1.out.dice (by omega) (by omega)).mono ?_;rintro e w2 ⟨a2,rfl,l2,u2, -,hd,ho⟩;have u2:=u2 (by omega);have HS_w2:=Lh (HS_w1.out.only hd ho);clear hd ho HS_w1 ;go_wp2_with fail;go_ret;exact ⟨_,rfl,by omega,by omega,HS_w2.out⟩
theorem set143_7 (b : Nat) (w : World) (hd : Dice b w) : Calls Tryz.prog 143 #[.pointer (some ⟨b,0,none⟩),.int .i64 7] w fun e w' => ∃ x : Int,e = .returned (.int .i64 x) /\ 1 <= x /\ x < 128 /\ Sofar b w w':=by
 have HS_w:=Lh (Sofar.refl hd);go_enter Tryz.func143,Tryz.ntmps143;go_wp2_with fail;refine (next_any b 4 _ HS_w.out.dice (by omega) (by omega)).mono ?_;rintro e w1 ⟨a1,rfl,l1,u1, -,hd,ho⟩;have u1:=u1 (by omega);have HS_w1:=Lh (HS_w.out.only hd ho);clear hd ho HS_w ;rcases (show a1 = 0 ∨ a1 = 1 ∨ 2 <= a1 by omega) with rfl | rfl | h2
 ·go_wp2_with fail;go_ret;exact ⟨_,rfl,by decide,by decide,HS_w1.out⟩
 ·go_wp2_with fail;go_ret;exact ⟨_,rfl,by decide,by decide,HS_w1.out⟩
 ·have g0 : (a1 == 0) = false:=beq_eq_false_iff_ne.2 (by omega);have g1 : (a1 == 1) = false:=beq_eq_false_iff_ne.2 (by omega);go_wp2_with fail;refine (next_any b 127 _ HS_w1.out.dice (by omega) (by omega)).mono ?_;rintro e w2 ⟨a2,rfl,l2,u2, -,hd,ho⟩;have u2:=u2 (by omega);have HS_w2:=Lh (HS_w1.out.only hd ho);clear hd ho HS_w1 ;go_wp2_with fail;go_ret;exact ⟨_,rfl,by omega,by omega,HS_w2.out⟩
theorem set143_8 (b : Nat) (w : World) (hd : Dice b w) : Calls Tryz.prog 143 #[.pointer (some ⟨b,0,none⟩),.int .i64 8] w fun e w' => ∃ x : Int,e = .returned (.int .i64 x) /\ 1 <= x /\ x < 256 /\ Sofar b w w':=by
 have HS_w:=Lh (Sofar.refl hd);go_enter Tryz.func143,Tryz.ntmps143;go_wp2_with fail;refine (next_any b 4 _ HS_w.out.dice (by omega) (by omega)).mono ?_;rintro e w1 ⟨a1,rfl,l1,u1, -,hd,ho⟩;have u1:=u1 (by omega);have HS_w1:=Lh (HS_w.out.only hd ho);clear hd ho HS_w ;rcases (show a1 = 0 ∨ a1 = 1 ∨ 2 <= a1 by omega) with rfl | rfl | h2
 ·go_wp2_with fail;go_ret;exact ⟨_,rfl,by decide,by decide,HS_w1.out⟩
 ·go_wp2_with fail;go_ret;exact ⟨_,rfl,by decide,by decide,HS_w1.out⟩
 ·have g0 : (a1 == 0) = false:=beq_eq_false_iff_ne.2 (by omega);have g1 : (a1 == 1) = false:=beq_eq_false_iff_ne.2 (by omega);go_wp2_with fail;refine (next_any b 255 _ HS_w1.out.dice (by omega) (by omega)).mono ?_;rintro e w2 ⟨a2,rfl,l2,u2, -,hd,ho⟩;have u2:=u2 (by omega);have HS_w2:=Lh (HS_w1.out.only hd ho);clear hd ho HS_w1 ;go_wp2_with fail;go_ret;exact ⟨_,rfl,by omega,by omega,HS_w2.out⟩
theorem set143 (b : Nat) (n : Int) (w : World) (hd : Dice b w) (h0 : 1 <= n) (h1 : n <= 8) : Calls Tryz.prog 143 #[.pointer (some ⟨b,0,none⟩),.int .i64 n] w fun e w' => ∃ x : Int,e = .returned (.int .i64 x) /\ 1 <= x /\ x < ((2 ^ n.toNat : Nat) : Int) /\ Sofar b w w':=by
 rcases (show n = 1 ∨ n = 2 ∨ n = 3 ∨ n = 4 ∨ n = 5 ∨ n = 6 ∨ n = 7 ∨ n = 8 by omega) with rfl | rfl | rfl | rfl | rfl | rfl | rfl | rfl
 ·exact set143_1 b w hd
 ·exact set143_2 b w hd
 ·exact set143_3 b w hd
 ·exact set143_4 b w hd
 ·exact set143_5 b w hd
 ·exact set143_6 b w hd
 ·exact set143_7 b w hd
 ·exact set143_8 b w hd
end Go.Proofs.YtageielcdebjlaaGreatDoor
