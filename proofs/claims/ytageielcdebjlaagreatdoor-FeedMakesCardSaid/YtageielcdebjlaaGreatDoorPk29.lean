/- FeedMakes: the walk of the law. What a row's condition says of the laid tables: the lengths of months and the powers of ten. A session that comes in as data: what its value is. A [][]Session that comes in as data. No function of the program in sight. -/
import Derived.Test.YtageielcdebjlaaGreatDoorPk20
import Derived.Test.YtageielcdebjlaaGreatDoorPk24
import Derived.Test.YtageielcdebjlaaGreatDoorMakO
import Derived.Test.YtageielcdebjlaaGreatDoorPk28
import Derived.Test.YtageielcdebjlaaGreatDoorPk8
import Derived.Test.YtageielcdebjlaaGreatDoorPk19
import Derived.Test.YtageielcdebjlaaGreatDoorPk10
import Derived.Test.YtageielcdebjlaaGreatDoorPk1
import Derived.Test.YtageielcdebjlaaGreatDoorPk3
import Derived.Lib.LaidTab
import Derived.MakeChecks
import Derived.Test.YtageielcdebjlaaGreatDoorPk13
import Derived.ProofKit
import Derived.OpenShut
import Derived.Deep.DeepHandedRow
import Derived.Deep.Slices
set_option maxRecDepth 100000
set_option maxHeartbeats 40000000
namespace Go.Proofs.YtageielcdebjlaaGreatDoor
open Go.RowKit
def LstW (B : Nat) (w : World) (ao : Option Addr) (ls : List (List Ses)) : Prop :=
 ls = [] ∨ ∃ b o,ao = some ⟨b,o,none⟩ /\ b < B /\ ∀ (j : Nat) (l : List Ses),ls[j]? = some l -> ∃ p c,w.cell? ⟨b,o + j,none⟩ = some (.slice p l.length c) /\ l.length <= c /\ c <= 9223372036854775807 /\ SesAt B w p l
theorem LstW.lst {B : Nat} {w : World} {ao : Option Addr} {ls : List (List Ses)} (h : LstW B w ao ls) (hle : ∀ l ∈ ls,l.length <= 100000) : LstAt B w ao ls:=by
 rcases h with h | ⟨b,o,h1,h2,h3⟩
 ·exact .inl h
 ·refine .inr ⟨b,o,h1,h2,fun j l hl => ?_⟩;obtain ⟨p,c,k1,k2,k3,k4⟩:=h3 j l hl;exact ⟨p,c,k1,k2,k3,hle l (List.mem_of_getElem? hl),k4⟩
theorem LstW.at_ {B : Nat} {w : World} {ao : Option Addr} {ls : List (List Ses)} (h : LstW B w ao ls) {j : Nat} {l : List Ses} (hl : ls[j]? = some l) : ∃ b o p c,ao = some ⟨b,o,none⟩ /\ b < B /\ w.cell? ⟨b,o + j,none⟩ = some (.slice p l.length c):=by
 rcases h with h | ⟨b,o,h1,h2,h3⟩
 ·subst h;cases hl
 ·obtain ⟨p,c,k1,_⟩:=h3 j l hl;exact ⟨b,o,p,c,h1,h2,k1⟩
theorem mak_same {n : ByteArray} {v : Int} {es : List Ev} {pu qu : Option Addr} {cu du lo lo' : Nat} {ts us : List (Ev × Value × Value)} {W : World} (ht : ts.map (·.1) = es) (hu : us.map (·.1) = es) (h1 : RowT lo W (.slice pu ts.length cu) ts) (h2 : RowT lo' W (.slice qu us.length du) us) (hn : ts.length <= 4611686018427387903) :
  Calls Tryz.prog 51 #[.agg #[.string n,.int .i64 v,.slice pu ts.length cu],.agg #[.string n,.int .i64 v,.slice qu us.length du]] W fun e w' => e = .returned (.bool true) /\ Below W.heap.size W w':=by
 obtain ⟨qa,qc,hq, -,hs⟩:=h1.seg;obtain ⟨ra,rc,hr, -,hs2⟩:=h2.seg;rw [Value.slice.injEq] at hq hr;have h:=same51 n n v v (ts.map (·.1)) (us.map (·.1)) pu qu cu du W (by rw [hq.1];exact hs.evs) (by rw [hr.1];exact hs2.evs) (by rw [List.length_map];exact hn) ⟨rfl,rfl,ht.trans hu.symm⟩;rw [List.length_map,List.length_map] at h;exact h
theorem law14 (ls : List (List Ses)) (pl : Option Addr) (cl : Nat) (nm : ByteArray) (ao : Option Addr) (len cap : Nat) (w : World) (mx : Int) (hS : LstW w.heap.size w pl ls) (hll : ls.length <= 9223372036854775807) (hnm : nm.size <= 9223372036854775807) (hn : Nums w ao len) (hm : w.cell? ⟨0,0,none⟩ = some (.int .i64 mx)) (hTz : Tz w) (hP : Pow w) (h6 : 6 < w.heap.size) : Calls Tryz.prog 14 #[.slice pl ls.length cl,.string nm,.slice ao len cap] w fun e w' => e = .returned (.bool true) /\ Below w.heap.size w w':=by
 have HN:=Lh hn;have HSix:=Lh h6;have HS:=Lh hS;have HTz:=Lh hTz;have HAW : Hid (∀ W,Below w.heap.size w W -> Calls Tryz.prog 33 #[] W fun e w' => e = .returned (.bool true) /\ Below W.heap.size W w'):=Lh (fun W hW => awake_any W mx ((hW.cell (p:=⟨0,0,none⟩) (show 0 < w.heap.size by omega)).trans hm) (by have:=hW.size;omega));have HPow : Hid (∀ W,Below w.heap.size w W -> Pow W):=Lh (fun W hW => hP.below h6 hW);have HTZ : Hid (∀ W,Below w.heap.size w W -> Tz W):=Lh (fun W hW => hTz.below h6 hW);clear hn hm hP h6 hS hTz HTz;by_cases hlen : (len : Int) <= 400
 rotate_left
 ·have hd1 : decide ((len : Int) <= 400) = false:=decide_eq_false hlen;go_enter Tryz.func14,Tryz.ntmps14;go_wp2_with (go_at_call 15;(with_reducible refine (light_any ao len cap _).mono ?_);rintro e w3 ⟨rfl,hw3⟩;rw [hw3,hd1];clear hw3 w3);refine (HAW.out _ (Below.refl w.heap.size w)).mono ?_;rintro e we ⟨rfl,hb⟩;have HE:=Lh (((Below.refl w.heap.size w)).trans (hb.mono ((Below.refl w.heap.size w)).size));clear hb;go_wp2_with fail;go_ret;exact ⟨rfl,HE.out⟩
 have hd1 : decide ((len : Int) <= 400) = true:=decide_eq_true hlen;by_cases h80 : 80 < (ls.length : Int)
 ·go_enter Tryz.func14,Tryz.ntmps14;go_wp2_with (go_at_call 15;(with_reducible refine (light_any ao len cap _).mono ?_);rintro e w3 ⟨rfl,hw3⟩;rw [hw3,hd1];clear hw3 w3);refine (HAW.out _ (Below.refl w.heap.size w)).mono ?_;rintro e we ⟨rfl,hb⟩;have HE:=Lh (((Below.refl w.heap.size w)).trans (hb.mono ((Below.refl w.heap.size w)).size));clear hb;go_wp2_with fail;go_ret;exact ⟨rfl,HE.out⟩
 by_cases h100 : 100 < (nm.size : Int)
 ·go_enter Tryz.func14,Tryz.ntmps14;go_wp2_with (go_at_call 15;(with_reducible refine (light_any ao len cap _).mono ?_);rintro e w3 ⟨rfl,hw3⟩;rw [hw3,hd1];clear hw3 w3);refine (HAW.out _ (Below.refl w.heap.size w)).mono ?_;rintro e we ⟨rfl,hb⟩;have HE:=Lh (((Below.refl w.heap.size w)).trans (hb.mono ((Below.refl w.heap.size w)).size));clear hb;go_wp2_with fail;go_ret;exact ⟨rfl,HE.out⟩
 go_enter Tryz.func14,Tryz.ntmps14;go_wp2_with (go_at_call 15;(with_reducible refine (light_any ao len cap _).mono ?_);rintro e w3 ⟨rfl,hw3⟩;rw [hw3,hd1];clear hw3 w3);clear hd1;have HLEN:=Lh hlen;clear hlen;go_loopw [7] (fun iv wr => ∃ k : Nat,iv = .int .i64 k /\ k <= ls.length /\ Hid (∀ l ∈ ls.take k,l.length <= 100) /\ Hid (Below w.heap.size w wr)) (fun iv _ => ls.length - (intOf iv).toNat)
 case atStart => exact ⟨0,rfl,Nat.zero_le _,Lh (fun l hl => by simp at hl),Lh (Below.refl _ _)⟩
 case round =>
  obtain ⟨k,rfl,hk,HK,HB⟩:=hrel;by_cases hlt : k < ls.length
  ·have hki : (k : Int) < (ls.length : Int):=by omega
   have hk0 : (0 : Int) <= (k : Int):=by omega
   obtain ⟨l,hl⟩ : ∃ l,ls[k]? = some l:=⟨_,List.getElem?_eq_getElem hlt⟩
   obtain ⟨b,o,p,q,ha,hbl,hcell⟩:=HS.out.at_ hl;subst ha;have x0 : wr.cell? ⟨b,o + k,none⟩ = some (.slice p l.length q):=(HB.out.cell (p:=⟨b,o + k,none⟩) hbl).trans hcell;by_cases hl1 : 100 < (l.length : Int)
   ·clear hcell hl;go_wp2_with fail;refine (HAW.out _ HB.out).mono ?_;rintro e we ⟨rfl,hb⟩;have HE:=Lh ((HB.out).trans (hb.mono (HB.out).size));clear hb;go_wp2_with fail;go_ret;exact ⟨rfl,HE.out⟩
   have HKN:=Lh (show ∀ z ∈ ls.take (k + 1),z.length <= 100 from fun z hz => by
    rw [List.take_add_one,hl,Option.toList_some] at hz;rcases List.mem_append.1 hz with h | h
    ·exact HK.out z h
    ·rw [List.mem_singleton.1 h];omega)
   clear hcell hl;go_wp2_with fail;go_roundw
   case rel => exact ⟨k + 1,by go_num,by omega,HKN,HB⟩
   case measure => simp [intOf];omega
  obtain rfl : k = ls.length:=by omega
  have hki : ¬ (ls.length : Int) < (ls.length : Int):=by omega
  rw [List.take_length] at HK;have HLA:=Lh (HS.out.lst (fun l hl => by have:=HK.out l hl;omega));clear HK hk hlt HS;obtain ⟨w0,hw0⟩ : ∃ q,q = wr:=⟨_,rfl⟩
  rw [<- hw0] at HB ⊢;clear hw0;go_wp2_with fail;refine (roll_any ao len cap w0 (by have:=HLEN.out;omega) (HN.out.below HB.out)).mono ?_;rintro e w1 ⟨rfl,hd,hb,hsz⟩;obtain ⟨b,hbb⟩ : ∃ b,b = w0.heap.size:=⟨_,rfl⟩
  rw [<- hbb] at hd hb hsz ⊢;have HL1:=Lh (show Below w.heap.size w w1 from HB.out.trans (hb.mono (by rw [hbb];exact HB.out.size)));have HD1:=Lh hd;have hwb : w.heap.size <= b:=by rw [hbb];exact HB.out.size
  clear hd hb hbb HB hki;go_wp2_with fail;refine (term68 b w1 HD1.out).mono ?_;rintro e w2 ⟨g,t,v,u,l2,rfl,hv,hvl,ho,hll2,hle,hs⟩;obtain ⟨pt,ct,hpv⟩:=RowI.slice hv;subst hpv;have hs1 : w.heap.size <= w1.heap.size:=HL1.out.size;have HL2:=Lh (show Below w.heap.size w w2 from HL1.out.trans (hs.but.below hwb hs1));have HV2:=Lh hv;have HO2:=Lh ho;have HLE:=Lh hle;have HLL:=Lh hll2;clear hs hv ho hle hll2 HD1 HL1;unfold grdVal trmVal;obtain ⟨G,hG⟩ : ∃ x,x = w2.heap.size:=⟨_,rfl⟩
  obtain ⟨T,hT⟩ : ∃ x,x = w2.heap.size + 1:=⟨_,rfl⟩
  obtain ⟨w3,hw3⟩ : ∃ X,X = (w2.alloc (.cells #[.int .i64 g.days,.int .i64 g.slots,.int .i64 g.begin_,.int .i64 g.mins] 90)).alloc (.cells #[.int .i64 t.first,.int .i64 t.weeks,.slice pt t.hols.length ct] 93):=⟨_,rfl⟩
  have HK3:=Lh (show Below w2.heap.size w2 w3 from by rw [hw3];exact (below_box w2 _).trans ((below_box _ _).mono (by simp)));have HG3:=Lh (show Blk G #[.int .i64 g.days,.int .i64 g.slots,.int .i64 g.begin_,.int .i64 g.mins] 90 w3 from by rw [hw3,hG];exact (Blk.new w2 _ _).alloc _);have HT3:=Lh (show Blk T #[.int .i64 t.first,.int .i64 t.weeks,.slice pt t.hols.length ct] 93 w3 from by rw [hw3,hT];exact Blk.new' _ _ _ (by simp));obtain ⟨pu,cu,hu⟩:=ownsRow_len HO2.out.row;subst hu;go_upto_region 9 with (fail);rw [<- hw3,<- hT,<- hG];clear hw3 hT hG;have HL3:=Lh (HL2.out.trans (HK3.out.mono HL2.out.size));have HR3:=Lh (show LstAt w3.heap.size w3 pu (l2.map (·.2)) from RowSS.lst ⟨ownsRow_below HO2.out.row HK3.out,fun q hq => ownsRow_below (HO2.out.each q hq) HK3.out⟩ (fun q hq => by have:=HLE.out q hq;omega));have HA3:=Lh (show LstAt w3.heap.size w3 pl ls from (HLA.out.below HL3.out).mono HL3.out.size);have HV3:=Lh (show RowI w1.heap.size w3 (.slice pt t.hols.length ct) t.hols from ownsRow_below HV2.out HK3.out);clear HV2 HO2 HLE HK3 HL2 HLA;obtain ⟨D,hD⟩ : ∃ x,x = w3.heap.size:=⟨_,rfl⟩
  obtain ⟨w4,hw4⟩ : ∃ X,X = w3.alloc (.cells #[.slice pl ls.length cl,.slice pu l2.length cu] 95):=⟨_,rfl⟩
  have HD4:=Lh (show Blk D #[.slice pl ls.length cl,.slice pu l2.length cu] 95 w4 from by rw [hw4,hD];exact Blk.new w3 _ _);have HK4:=Lh (show Below w3.heap.size w3 w4 from by rw [hw4];exact below_box w3 _);go_wp2_with fail;rw [<- hw4,<- hD];have HL4:=Lh (HL3.out.trans (HK4.out.mono HL3.out.size));have HG4:=Lh (HG3.out.below HK4.out HG3.out.lt);have HT4:=Lh (HT3.out.below HK4.out HT3.out.lt);have HR4:=Lh ((HR3.out.below HK4.out).mono HK4.out.size);have HA4:=Lh ((HA3.out.below HK4.out).mono HK4.out.size);have HV4:=Lh (show RowI w1.heap.size w4 (.slice pt t.hols.length ct) t.hols from ownsRow_below HV3.out HK4.out);clear hw4 hD HK4 HL3 HG3 HT3 HR3 HA3 HV3;go_loopw [57] (fun iv wr => ∃ k : Nat,iv = .int .i64 k /\ k <= 2 /\ Hid (Below w4.heap.size w4 wr)) (fun iv _ => 2 - (intOf iv).toNat)
  case atStart => exact ⟨0,rfl,by decide,Lh (Below.refl _ _)⟩
  case round =>
   obtain ⟨k,rfl,hk,HW⟩:=hrel;by_cases hlt : k < 2
   rotate_left
   ·have hki : ¬ (k : Int) < 2:=by omega
    go_wp2_with fail;refine (HAW.out _ (HL4.out.trans (HW.out.mono HL4.out.size))).mono ?_;rintro e we ⟨rfl,hb⟩;have HE:=Lh (((HL4.out.trans (HW.out.mono HL4.out.size))).trans (hb.mono ((HL4.out.trans (HW.out.mono HL4.out.size))).size));clear hb;go_wp2_with fail;go_ret;exact ⟨rfl,HE.out⟩
   have hki : (k : Int) < 2:=by omega
   have hk0 : (0 : Int) <= (k : Int):=by omega
   have hkn : ((k : Int)).toNat = k:=by omega
   obtain ⟨pz,cz,L,hc,hLA,hLn⟩ : ∃ (pz : Option Addr) (cz : Nat) (L : List (List Ses)),w4.cell? ⟨D,k,none⟩ = some (.slice pz L.length cz) /\ LstAt w4.heap.size w4 pz L /\ L.length <= 100000:=by
    have hk2 : k = 0 ∨ k = 1:=by omega
    rcases hk2 with rfl | rfl
    ·exact ⟨pl,cl,ls,HD4.out.cell 0,HA4.out,by omega⟩
    ·exact ⟨pu,cu,l2.map (·.2),by rw [List.length_map];exact HD4.out.cell 1,HR4.out,by rw [List.length_map];have:=HLL.out;omega⟩
   have hDl:=HD4.out.lt;have x0 : wr.cell? ⟨D,k,none⟩ = some (.slice pz L.length cz):=(HW.out.cell (p:=⟨D,k,none⟩) hDl).trans hc;have HLz:=Lh hLA;clear hc hLA;obtain ⟨D2,hD2⟩ : ∃ x,x = wr.heap.size:=⟨_,rfl⟩
   obtain ⟨w5,hw5⟩ : ∃ X,X = wr.alloc (.cells #[.string nm,.string ⟨#[115,49]⟩] 9):=⟨_,rfl⟩
   have HD5:=Lh (show Blk D2 #[.string nm,.string ⟨#[115,49]⟩] 9 w5 from by rw [hw5,hD2];exact Blk.new wr _ _);have HK5:=Lh (show Below wr.heap.size wr w5 from by rw [hw5];exact below_box wr _);go_wp2_with fail;rw [<- hw5,<- hD2];have HW5:=Lh (HW.out.trans (HK5.out.mono HW.out.size));clear hw5 hD2 HK5 x0;go_loopw [64] (fun iv wr => ∃ j : Nat,iv = .int .i64 j /\ j <= 2 /\ Hid (Below w5.heap.size w5 wr)) (fun iv _ => 2 - (intOf iv).toNat)
   case atStart => exact ⟨0,rfl,by decide,Lh (Below.refl _ _)⟩
   case round =>
    obtain ⟨j,rfl,hj,HB⟩:=hrel;by_cases hjt : j < 2
    rotate_left
    ·have hji : ¬ (j : Int) < 2:=by omega
     have HWN:=Lh (HW5.out.trans (HB.out.mono HW5.out.size));go_wp2_with fail;go_roundw
     case rel => exact ⟨k + 1,by go_num,by omega,HWN⟩
     case measure => simp [intOf];omega
    have hji : (j : Int) < 2:=by omega
    have hj0 : (0 : Int) <= (j : Int):=by omega
    have hjn : ((j : Int)).toNat = j:=by omega
    obtain ⟨N,hN⟩ : ∃ N : ByteArray,w5.cell? ⟨D2,j,none⟩ = some (.string N):=by
     have hj2 : j = 0 ∨ j = 1:=by omega
     rcases hj2 with rfl | rfl
     ·exact ⟨_,HD5.out.cell 0⟩
     ·exact ⟨_,HD5.out.cell 1⟩
    have hD2:=HD5.out.lt;have x0 : wr.cell? ⟨D2,j,none⟩ = some (.string N):=(HB.out.cell (p:=⟨D2,j,none⟩) hD2).trans hN;have HWR:=Lh (HW5.out.trans (HB.out.mono HW5.out.size));have HLR:=Lh (HL4.out.trans (HWR.out.mono HL4.out.size));have HGr:=Lh (HG4.out.below HWR.out HG4.out.lt);have HTr:=Lh (HT4.out.below HWR.out HT4.out.lt);have y0 : wr.cell? ⟨G,0,none⟩ = some (.int .i64 g.days):=HGr.out.cell 0;have y1 : wr.cell? ⟨G,1,none⟩ = some (.int .i64 g.slots):=HGr.out.cell 1;have y2 : wr.cell? ⟨G,2,none⟩ = some (.int .i64 g.begin_):=HGr.out.cell 2;have y3 : wr.cell? ⟨G,3,none⟩ = some (.int .i64 g.mins):=HGr.out.cell 3;have z0 : wr.cell? ⟨T,0,none⟩ = some (.int .i64 t.first):=HTr.out.cell 0;have z1 : wr.cell? ⟨T,1,none⟩ = some (.int .i64 t.weeks):=HTr.out.cell 1;have z2 : wr.cell? ⟨T,2,none⟩ = some (.slice pt t.hols.length ct):=HTr.out.cell 2;obtain ⟨fn,hfn⟩ : ∃ x,x = (makF g t N L).1:=⟨_,rfl⟩
    obtain ⟨fv,hfv⟩ : ∃ x,x = (makF g t N L).2.1:=⟨_,rfl⟩
    obtain ⟨es,hes⟩ : ∃ x,x = (makF g t N L).2.2:=⟨_,rfl⟩
    obtain ⟨E,hE⟩ : ∃ x,x = makC g t N L:=⟨_,rfl⟩
    have HFV : Hid (E = 0 -> feedV fn fv es = 0):=Lh (fun h => by rw [hfn,hfv,hes];exact makF_valid (by rw [<- hE];exact h));have HFL : Hid (es.length <= 256):=Lh (by rw [hes];exact makF_len);have HC63:=Lh (show ∀ W,Below w4.heap.size w4 W -> Calls Tryz.prog 63 #[.agg #[.int .i64 g.days,.int .i64 g.slots,.int .i64 g.begin_,.int .i64 g.mins],.agg #[.int .i64 t.first,.int .i64 t.weeks,.slice pt t.hols.length ct],.string N,.slice pz L.length cz] W fun e w' => ∃ (p : Option Addr) (q : Nat) (ts : List (Ev × Value × Value)),e = .returned (.tuple #[.agg #[.string fn,.int .i64 fv,.slice p ts.length q],.int .i64 E]) /\ RowT W.heap.size w' (.slice p ts.length q) ts /\ ts.map (·.1) = es /\ Below W.heap.size W w' from fun W hW => by
     have hi2 : Ints W.heap.size W pt t.hols:=RowI.ao (lo:=w1.heap.size) (ownsRow_below HV4.out hW);have hLW:=HL4.out.trans (hW.mono HL4.out.size);refine (mak63 g t pt ct N L pz cz W hi2 (by omega) ((HLz.out.below hW).mono hW.size) (by omega) (HTZ.out W hLW) (HPow.out W hLW) (Nat.lt_of_lt_of_le HSix.out hLW.size)).mono ?_;rintro e w' ⟨⟨v,ts,rfl,hr,he⟩,hb⟩;obtain ⟨p,q,hq, -, -⟩:=hr.seg;subst hq;exact ⟨p,q,ts,by rw [hfn,hfv,hE],hr,he.trans hes.symm,hb⟩)
    have HC77:=Lh (show ∀ W,Below w4.heap.size w4 W -> Calls Tryz.prog 77 #[.agg #[.int .i64 g.days,.int .i64 g.slots,.int .i64 g.begin_,.int .i64 g.mins],.agg #[.int .i64 t.first,.int .i64 t.weeks,.slice pt t.hols.length ct],.string N,.slice pz L.length cz] W fun e w' => ∃ (p : Option Addr) (q : Nat) (ts : List (Ev × Value × Value)),e = .returned (.tuple #[.agg #[.string fn,.int .i64 fv,.slice p ts.length q],.int .i64 E]) /\ RowT W.heap.size w' (.slice p ts.length q) ts /\ ts.map (·.1) = es /\ Below W.heap.size W w' from fun W hW => by
     have hi2 : Ints W.heap.size W pt t.hols:=RowI.ao (lo:=w1.heap.size) (ownsRow_below HV4.out hW);have hLW:=HL4.out.trans (hW.mono HL4.out.size);refine (mak77 g t pt ct N L pz cz W hi2 (by omega) ((HLz.out.below hW).mono hW.size) (by omega)).mono ?_;rintro e w' ⟨⟨v,ts,rfl,hr,he⟩,hb⟩;obtain ⟨p,q,hq, -, -⟩:=hr.seg;subst hq;exact ⟨p,q,ts,by rw [hfn,hfv,hE],hr,he.trans hes.symm,hb⟩)
    clear hN hfn hfv hes hE;go_upto_region 16 with (go_at_call 63;(with_reducible refine (HC63.out _ HWR.out).mono ?_);rintro e w6 ⟨p6,q6,ts6,rfl,hr6,he6,hb6⟩;have HR6:=Lh hr6;have HE6:=Lh he6;have HB6:=Lh hb6;clear hr6 he6 hb6);clear y0 y1 y2 y3 z0 z1 z2 x0;obtain ⟨P,hP⟩ : ∃ x,x = w6.heap.size:=⟨_,rfl⟩
    obtain ⟨w7,hw7⟩ : ∃ X,X = w6.alloc (.cells #[.string fn,.int .i64 fv,.slice p6 ts6.length q6] 26):=⟨_,rfl⟩
    have HP7:=Lh (show Blk P #[.string fn,.int .i64 fv,.slice p6 ts6.length q6] 26 w7 from by rw [hw7,hP];exact Blk.new w6 _ _);have HK7:=Lh (show Below wr.heap.size wr w7 from by rw [hw7];exact HB6.out.trans ((below_box w6 _).mono HB6.out.size));have HR7:=Lh (show RowT wr.heap.size w7 (.slice p6 ts6.length q6) ts6 from by rw [hw7];exact HR6.out.alloc _);rw [<- hw7,<- hP];clear hw7 hP HR6 HB6;have HW7:=Lh (HWR.out.trans (HK7.out.mono HWR.out.size));have HG7:=Lh (HGr.out.below HK7.out HGr.out.lt);have HT7:=Lh (HTr.out.below HK7.out HTr.out.lt);have y0 : w7.cell? ⟨G,0,none⟩ = some (.int .i64 g.days):=HG7.out.cell 0;have y1 : w7.cell? ⟨G,1,none⟩ = some (.int .i64 g.slots):=HG7.out.cell 1;have y2 : w7.cell? ⟨G,2,none⟩ = some (.int .i64 g.begin_):=HG7.out.cell 2;have y3 : w7.cell? ⟨G,3,none⟩ = some (.int .i64 g.mins):=HG7.out.cell 3;have z0 : w7.cell? ⟨T,0,none⟩ = some (.int .i64 t.first):=HT7.out.cell 0;have z1 : w7.cell? ⟨T,1,none⟩ = some (.int .i64 t.weeks):=HT7.out.cell 1;have z2 : w7.cell? ⟨T,2,none⟩ = some (.slice pt t.hols.length ct):=HT7.out.cell 2;go_upto_region 17 with (go_at_call 77;(with_reducible refine (HC77.out _ HW7.out).mono ?_);rintro e w8 ⟨p8,q8,ts8,rfl,hr8,he8,hb8⟩;have HR8:=Lh hr8;have HE8:=Lh he8;have HB8:=Lh hb8;clear hr8 he8 hb8);clear y0 y1 y2 y3 z0 z1 z2;obtain ⟨Q,hQ⟩ : ∃ x,x = w8.heap.size:=⟨_,rfl⟩
    obtain ⟨w9,hw9⟩ : ∃ X,X = w8.alloc (.cells #[.string fn,.int .i64 fv,.slice p8 ts8.length q8] 26):=⟨_,rfl⟩
    have HQ9:=Lh (show Blk Q #[.string fn,.int .i64 fv,.slice p8 ts8.length q8] 26 w9 from by rw [hw9,hQ];exact Blk.new w8 _ _);have HK9:=Lh (show Below w7.heap.size w7 w9 from by rw [hw9];exact HB8.out.trans ((below_box w8 _).mono HB8.out.size));have HR9:=Lh (show RowT w7.heap.size w9 (.slice p8 ts8.length q8) ts8 from by rw [hw9];exact HR8.out.alloc _);rw [<- hw9,<- hQ];clear hw9 hQ HR8 HB8;have HP9:=Lh (HP7.out.below HK9.out HP7.out.lt);have HS9:=Lh (HR7.out.made HK9.out);have HW9:=Lh (HW7.out.trans (HK9.out.mono HW7.out.size));have hl6 : ts6.length <= 4611686018427387903:=by have h1:=HFL.out;rw [<- HE6.out,List.length_map] at h1;omega
    have HC51:=Lh (mak_same (n:=fn) (v:=fv) HE6.out HE8.out HS9.out HR9.out hl6);have y0 : w9.cell? ⟨P,0,none⟩ = some (.string fn):=HP9.out.cell 0;have y1 : w9.cell? ⟨P,1,none⟩ = some (.int .i64 fv):=HP9.out.cell 1;have y2 : w9.cell? ⟨P,2,none⟩ = some (.slice p6 ts6.length q6):=HP9.out.cell 2;have z0 : w9.cell? ⟨Q,0,none⟩ = some (.string fn):=HQ9.out.cell 0;have z1 : w9.cell? ⟨Q,1,none⟩ = some (.int .i64 fv):=HQ9.out.cell 1;have z2 : w9.cell? ⟨Q,2,none⟩ = some (.slice p8 ts8.length q8):=HQ9.out.cell 2;have hne : (E == E) = true:=by simp
    have hne2 : (E != E) = false:=by simp
    by_cases hE0 : E = 0
    ·subst hE0;have HC46:=Lh (show ∀ W,RowT wr.heap.size W (.slice p6 ts6.length q6) ts6 -> Calls Tryz.prog 46 #[.agg #[.string fn,.int .i64 fv,.slice p6 ts6.length q6]] W fun e w' => e = .returned (.int .i64 0) /\ Below W.heap.size W w' from fun W hr => by
      obtain ⟨qa,qc,hq, -,hs⟩:=hr.seg;rw [Value.slice.injEq] at hq;have h:=valid46 fn fv (ts6.map (·.1)) p6 q6 W.heap.size W (Nat.le_refl _) (by rw [hq.1];exact hs.evs) (by rw [List.length_map];omega);rw [List.length_map,HE6.out,HFV.out rfl] at h;exact h)
     go_wp2_with (first | (go_at_call 51;(with_reducible refine HC51.out.mono ?_);rintro e wa ⟨rfl,hba⟩;have HBa:=Lh hba;have HPa:=Lh (HP9.out.below hba HP9.out.lt);have HSa:=Lh (HS9.out.made hba);have k0 : wa.cell? ⟨P,0,none⟩ = some (.string fn):=HPa.out.cell 0;have k1 : wa.cell? ⟨P,1,none⟩ = some (.int .i64 fv):=HPa.out.cell 1;have k2 : wa.cell? ⟨P,2,none⟩ = some (.slice p6 ts6.length q6):=HPa.out.cell 2;clear hba) | (go_at_call 46;(with_reducible refine (HC46.out _ HSa.out).mono ?_);rintro e wb ⟨rfl,hbb⟩;have HBb:=Lh (HBa.out.trans (hbb.mono HBa.out.size));clear hbb));have HN2:=Lh (HB.out.trans (HK7.out.trans ((HK9.out.mono HK7.out.size).trans (HBb.out.mono (Nat.le_trans HK7.out.size HK9.out.size))) |>.mono HB.out.size));go_roundw
     case rel => exact ⟨j + 1,by go_num,by omega,HN2⟩
     case measure => simp [intOf];omega
    ·have hE1 : (E == 0) = false:=by simpa using hE0
     go_wp2_with (go_at_call 51;(with_reducible refine HC51.out.mono ?_);rintro e wa ⟨rfl,hba⟩;have HBa:=Lh hba;have HPa:=Lh (HP9.out.below hba HP9.out.lt);have HSa:=Lh (HS9.out.made hba);have k0 : wa.cell? ⟨P,0,none⟩ = some (.string fn):=HPa.out.cell 0;have k1 : wa.cell? ⟨P,1,none⟩ = some (.int .i64 fv):=HPa.out.cell 1;have k2 : wa.cell? ⟨P,2,none⟩ = some (.slice p6 ts6.length q6):=HPa.out.cell 2;clear hba);have HN2:=Lh (HB.out.trans (HK7.out.trans ((HK9.out.mono HK7.out.size).trans (HBa.out.mono (Nat.le_trans HK7.out.size HK9.out.size))) |>.mono HB.out.size));go_roundw
     case rel => exact ⟨j + 1,by go_num,by omega,HN2⟩
     case measure => simp [intOf];omega
theorem vars_at {P : Program} {w : World} : ∀ {l : List (String × DataW Unit)} {ps : List MemPlace},DataW.LaidVars P w l ps -> ∀ {i : Nat} {x : String × DataW Unit},l[i]? = some x ->
  ∃ g t cs fuel p,P.globalNamed x.1 = some g /\ (P.globals[g]?).map (·.type) = some t /\ w.var? P x.1 = some cs /\ DataW.trod (fun _ => ()) P w 0 (fun _ => true) false fuel t cs.toList = some (x.2,p)
 | [],_,_,i,x,hx => by simp at hx
 | (n,d) :: r,ps,h,i,x,hx => by
  obtain ⟨g,t,cs,fuel,p,q,h1,h2,h3,h4,hr,_⟩:=h;cases i with
  | zero =>
   simp only [List.getElem?_cons_zero,Option.some.injEq] at hx;subst hx;exact ⟨g,t,cs,fuel,p,h1,h2,h3,h4⟩
  | succ i => exact vars_at hr (by simpa using hx)
theorem laid_tab {W : World} {l : List (String × DataW Unit)} (h : laidMet Tryz.prog l W) {i g n : Nat} {t e : TypeId} {k : IntKind} {zs : List Int} {x : String × DataW Unit} (hx : l[i]? = some x) (hd : x.2 = Lib.tabData k zs) (hg : Tryz.prog.globalNamed x.1 = some g) (hty : (Tryz.prog.globals[g]?).map (·.type) = some t)
  (ht : Tryz.prog.underlying t = some (.array n e)) (he : Tryz.prog.underlying e = some (.int k)) (hce : Tryz.prog.cellsOf e = 1) (hct : Tryz.prog.cellsOf t = n) : ∃ u fr,W.heap[g]? = some (.cells (zs.map fun z => Value.int k z).toArray u fr):=by
 obtain ⟨ps,hl,_⟩:=h;obtain ⟨g',t',cs,fuel,p,h1,h2,h3,h4⟩:=vars_at hl hx;obtain rfl:=Option.some.inj (hg.symm.trans h1);obtain rfl:=Option.some.inj (hty.symm.trans h2);rw [hd] at h4;have hc:=Lib.cells_of_tab ht he hce hct h4;unfold World.var? at h3;rw [h1] at h3;simp only [Option.bind_some] at h3;split at h3
 ·rename_i cs' u fr heq
  simp only [Option.some.injEq] at h3;subst h3;exact ⟨u,fr,by rw [heq,<- hc]⟩
 ·cases h3
theorem pow_laid {W : World} {l : List (String × DataW Unit)} (h : laidMet Tryz.prog l W) {i : Nat} {x : String × DataW Unit} (hx : l[i]? = some x) (hd : x.2 = Lib.tabData .u64 Lib.pow10Tab) (hg : Tryz.prog.globalNamed x.1 = some 6) : Pow W /\ 6 < W.heap.size:=by
 obtain ⟨u,fr,hh⟩:=laid_tab (g:=6) (t:=330) (e:=245) (n:=20) h hx hd hg (by kernel_rfl) (by kernel_rfl) (by kernel_rfl) (by kernel_rfl) (by kernel_rfl);exact ⟨⟨u,fr,hh⟩,(Array.getElem?_eq_some_iff.1 hh).1⟩
open Go Go.ChangeShapes Go.WideShapes Go.ChangeAt Go.RowKit
theorem se_cells3 : Tryz.prog.cellsOf 3 = 1:=by kernel_rfl
theorem se_cells9 : Tryz.prog.cellsOf 9 = 1:=by kernel_rfl
theorem se_cells105 : Tryz.prog.cellsOf 105 = 4:=by kernel_rfl
theorem se_cells107 : Tryz.prog.cellsOf 107 = 6:=by kernel_rfl
theorem list3 {α : Type} {l : List α} (h : l.length = 3) : ∃ c0 c1 c2,l = [c0,c1,c2]:=by
 match l,h with
 | [c0,c1,c2],_ => exact ⟨c0,c1,c2,rfl⟩
theorem list4 {α : Type} {l : List α} (h : l.length = 4) : ∃ c0 c1 c2 c3,l = [c0,c1,c2,c3]:=by
 match l,h with
 | [c0,c1,c2,c3],_ => exact ⟨c0,c1,c2,c3,rfl⟩
open Go Go.RowKit Go.ChangeShapes Go.WideShapes
theorem open_ses_cells {H : Type} {enc : TypeId × Value -> H} {W : World} {fuel : Nat} {cs : List Value} {d : DataW H × List MemPlace} (hsz : cs.length = 6) (hf : DataW.trod enc Tryz.prog W 0 (fun _ => true) true fuel 107 cs = some d) : ∃ s : Ses,cs = (sesCells s).toList:=by
 obtain ⟨c0,c1,c2,c3,c4,c5,rfl⟩ : ∃ c0 c1 c2 c3 c4 c5,cs = [c0,c1,c2,c3,c4,c5]:=by
  match cs,hsz with
  | [a,b,c,d,e,f],_ => exact ⟨a,b,c,d,e,f,rfl⟩
 obtain ⟨xs,n,rfl,hx, -,hlen,hfs⟩:=DataW.trod_struct Tryz.underlying107 hf;obtain ⟨y0,y1,y2,rfl⟩:=list3 hlen;have f0 : DataW.trod enc Tryz.prog W 0 (fun _ => true) true n 9 [c0] = some y0:=by simpa [Value.cells,se_cells9] using hfs 0 _ rfl
 have f1 : DataW.trod enc Tryz.prog W 0 (fun _ => true) true n 105 [c1,c2,c3,c4] = some y1:=by simpa [Value.cells,se_cells105] using hfs 1 _ rfl
 have f2 : DataW.trod enc Tryz.prog W 0 (fun _ => true) true n 9 [c5] = some y2:=by simpa [Value.cells,se_cells9] using hfs 2 _ rfl
 clear hfs hf hlen;obtain ⟨s0,e0,g0,w0⟩:=DataW.trod_string Tryz.underlying9 f0;obtain ⟨s2,e2,g2,w2⟩:=DataW.trod_string Tryz.underlying9 f2;obtain ⟨zs,k,rfl,hz, -,hlen,hfs⟩:=DataW.trod_struct Tryz.underlying105 f1;obtain ⟨z0,z1,z2,z3,rfl⟩:=list4 hlen;have k0 : DataW.trod enc Tryz.prog W 0 (fun _ => true) true k 3 [c1] = some z0:=by simpa [se_cells3] using hfs 0 _ rfl
 have k1 : DataW.trod enc Tryz.prog W 0 (fun _ => true) true k 3 [c2] = some z1:=by simpa [se_cells3] using hfs 1 _ rfl
 have k2 : DataW.trod enc Tryz.prog W 0 (fun _ => true) true k 3 [c3] = some z2:=by simpa [se_cells3] using hfs 2 _ rfl
 have k3 : DataW.trod enc Tryz.prog W 0 (fun _ => true) true k 3 [c4] = some z3:=by simpa [se_cells3] using hfs 3 _ rfl
 clear hfs hlen f1;obtain ⟨m0,d0,q0, -⟩:=DataW.trod_int Tryz.underlying3 k0;obtain ⟨m1,d1,q1, -⟩:=DataW.trod_int Tryz.underlying3 k1;obtain ⟨m2,d2,q2, -⟩:=DataW.trod_int Tryz.underlying3 k2;obtain ⟨m3,d3,q3, -⟩:=DataW.trod_int Tryz.underlying3 k3;simp only [List.cons.injEq,and_true] at e0 e2 d0 d1 d2 d3;subst e0 e2 d0 d1 d2 d3;exact ⟨⟨s0,⟨m0,m1,m2,m3⟩,s2⟩,rfl⟩
theorem spot_none {W : World} {a : Addr} {n : Nat} {cs : List Value} (h : W.cells? 0 a n = some cs) (hn : 0 < n) : a.spot = none:=by
 obtain ⟨-,g3,g4⟩:=World.cells?_some h;have g5:=g4 0 hn;rw [List.getElem?_eq_getElem (by omega)] at g5;have:=World.cell?_spot g5;simpa [Addr.add] using this
theorem list_ofM {α : Type} {p : Nat -> α -> Prop} : ∀ n : Nat,(∀ i,i < n -> ∃ x,p i x) -> ∃ l : List α,l.length = n /\ ∀ i x,l[i]? = some x -> p i x
 | 0,_ => ⟨[],rfl,fun i x h => by simp at h⟩
 | n + 1,h => by
  obtain ⟨l,h1,h2⟩:=list_ofM n (fun i hi => h i (by omega));obtain ⟨x,hx⟩:=h n (by omega);refine ⟨l ++ [x],by simp [h1],fun i y hy => ?_⟩;by_cases hi : i < n
  ·rw [List.getElem?_append_left (by omega)] at hy;exact h2 i y hy
  ·have:=(List.getElem?_eq_some_iff.1 hy).1;rw [List.length_append,List.length_singleton] at this;have e : i = n:=by omega
   subst e;rw [List.getElem?_append_right (by omega),h1,Nat.sub_self] at hy;have : x = y:=by simpa using hy
   rw [<- this];exact hx
theorem addr_lit (b o i : Nat) : (⟨b,o,none⟩ : Addr).add i = ⟨b,o + i,none⟩:=by unfold Addr.add;split <;> simp_all
theorem open_sessions {H : Type} {enc : TypeId × Value -> H} {W : World} {fuel : Nat} {c : Value} {y : DataW H × List MemPlace} (h : DataW.trod enc Tryz.prog W 0 (fun _ => true) true fuel 110 [c] = some y) (hlt : ∀ x ∈ y.2,x.block < W.heap.size) :
  ∃ (p : Option Addr) (cap : Nat) (l : List Ses),c = .slice p l.length cap /\ l.length <= cap /\ cap <= 9223372036854775807 /\ SesAt W.heap.size W p l:=by
 rcases Go.Deep.open_slice Tryz.underlying110 h with ⟨hcs,hx⟩ | ⟨a,len,cap,m,n,D,Pl,hcs,hb,hl,hm,hmm,rfl,hx⟩
 ·simp at hcs;exact ⟨none,0,[],hcs,Nat.le_refl _,by decide,.inl rfl⟩
 ·simp at hcs;simp only [if_true] at hmm;subst hmm;rw [se_cells107] at hx hlt;have hm2 : m <= 9223372036854775807:=by unfold maxLen at hm;omega
  by_cases h0 : len = 0
  ·subst h0;exact ⟨some a,m,[],hcs,Nat.zero_le _,hm2,.inl rfl⟩
  obtain ⟨b,o,sp⟩:=a;have hs : sp = none:=by
   obtain ⟨cs',g1,_⟩:=hx 0 (by omega);have:=spot_none g1 (by decide);simpa [Addr.add] using this
  subst hs;have each : ∀ i,i < len -> ∃ s : Ses,∀ q u,(sesCells s).toList[q]? = some u -> W.cell? ⟨b,o + i * 6 + q,none⟩ = some u:=by
   intro i hi;obtain ⟨cs',g1,g2⟩:=hx i (by omega);obtain ⟨-,g3,g4⟩:=World.cells?_some g1;obtain ⟨s,hs⟩:=open_ses_cells g3 g2;refine ⟨s,fun q u hq => ?_⟩;rw [<- hs] at hq;have hq6 : q < 6:=by rw [<- g3];exact (List.getElem?_eq_some_iff.1 hq).1
   have g5:=g4 q hq6;rw [hq,addr_lit,addr_lit] at g5;exact g5
  obtain ⟨l,hl2,hq⟩:=list_ofM len each;refine ⟨some ⟨b,o,none⟩,m,l,by rw [hl2];exact hcs,by omega,hm2,.inr ⟨b,o,rfl,?_,fun j i s u hs hu => hq j s hs i u hu⟩⟩;exact hlt (.cell b o) (List.mem_append.2 (.inl (MemPlace.mem_row.2 ⟨0,by omega,by simp⟩)))
theorem cells110 : Tryz.prog.cellsOf 110 = 1:=by kernel_rfl
theorem open_lists {H : Type} {enc : TypeId × Value -> H} {W : World} {fuel : Nat} {c : Value} {y : DataW H × List MemPlace} (h : DataW.trod enc Tryz.prog W 0 (fun _ => true) true fuel 95 [c] = some y) (hlt : ∀ x ∈ y.2,x.block < W.heap.size) :
  ∃ (p : Option Addr) (cap : Nat) (ls : List (List Ses)),c = .slice p ls.length cap /\ ls.length <= 9223372036854775807 /\ LstW W.heap.size W p ls:=by
 rcases Go.Deep.open_slice1 Tryz.underlying95 cells110 h with ⟨hcs,hx⟩ | ⟨a,len,cap,m,n,V,D,Pl,hcs,hb,hl,hm,hmm,rfl,hx⟩
 ·simp at hcs;exact ⟨none,0,[],hcs,by decide,.inl rfl⟩
 ·simp at hcs;simp only [if_true] at hmm;subst hmm;have hm2 : m <= 9223372036854775807:=by unfold maxLen at hm;omega
  by_cases h0 : len = 0
  ·subst h0;exact ⟨some a,m,[],hcs,by decide,.inl rfl⟩
  obtain ⟨b,o,sp⟩:=a;have hs : sp = none:=by
   have:=World.cell?_spot (hx 0 (by omega)).1;simpa [Addr.add] using this
  subst hs;have each : ∀ i,i < len -> ∃ l : List Ses,∃ p c,W.cell? ⟨b,o + i,none⟩ = some (.slice p l.length c) /\ l.length <= c /\ c <= 9223372036854775807 /\ SesAt W.heap.size W p l:=by
   intro i hi;obtain ⟨g1,g2⟩:=hx i (by omega);obtain ⟨p,c2,l,e,k1,k2,k3⟩:=open_sessions g2 (fun x hx => hlt x (List.mem_append.2 (.inr (List.mem_flatMap.2 ⟨i,List.mem_range.2 (by omega),hx⟩))));rw [addr_lit,e] at g1;exact ⟨l,p,c2,g1,k1,k2,k3⟩
  obtain ⟨ls,hl2,hq⟩:=list_ofM len each;refine ⟨some ⟨b,o,none⟩,m,ls,by rw [hl2];exact hcs,by omega,.inr ⟨b,o,rfl,?_,hq⟩⟩;exact hlt (.cell b o) (List.mem_append.2 (.inl (MemPlace.mem_row.2 ⟨0,by omega,by simp⟩)))
end Go.Proofs.YtageielcdebjlaaGreatDoor
