/- sort.Sort over an agenda of at most one entry: it is as it was. timetablelaw40.short over one event: its contract: an answer. timetableref17.SameInts: its contract. The law's awake: its contract. FeedTexts: the walk. subscriber.Agenda: its contract, where at most one entry comes out. The law's awake: its contract: true. -/
import Derived.Test.YtageielcdebjlaaGreatDoorPk15
import Derived.Test.YtageielcdebjlaaGreatDoorPk4
import Derived.Test.YtageielcdebjlaaGreatDoorPk12
import Derived.Test.YtageielcdebjlaaGreatDoorPk3
import Derived.Test.YtageielcdebjlaaGreatDoorMerge26
set_option maxRecDepth 100000
set_option maxHeartbeats 40000000
namespace Go.Proofs.YtageielcdebjlaaGreatDoor
open Go.RowKit
theorem len_method (v : Value) (w : World) : (method 461 139 v "Len").run Tryz.prog w = .ok (376,v) w:=by kernel_rfl
theorem len376 (p : Option Addr) (n c : Nat) (w : World) : Calls Tryz.prog 376 #[.slice p n c] w fun e w' => e = .returned (.int .i64 n) /\ w' = w:=by
 go_enter Tryz.func376,Tryz.ntmps376;go_wp2_with fail;go_ret;exact ⟨rfl,rfl⟩
theorem sort87_small (p : Option Addr) (n c : Nat) (w : World) (hn : n <= 1) : Calls Tryz.prog 87 #[.iface 139 (.slice p n c)] w fun e w' => e = .returned (.tuple #[]) /\ w' = w:=by
 have hni : (n : Int) <= 1:=by omega
 have hm:=len_method (.slice p n c) w;go_enter Tryz.func87,Tryz.ntmps87;go_wp2_with (simp only [hm]);refine (len376 p n c w).mono ?_;rintro e w1 ⟨rfl,hw⟩;rw [hw];clear hw w1 hm;go_wp2_with fail;refine bodyPost_ret (results_none rfl _ _ _) rfl ?_;exact ⟨rfl,rfl⟩
end Go.Proofs.YtageielcdebjlaaGreatDoor
-- Short
namespace Go.Proofs.YtageielcdebjlaaGreatDoor
open Go.RowKit
end Go.Proofs.YtageielcdebjlaaGreatDoor
-- Law10a
namespace Go.Proofs.YtageielcdebjlaaGreatDoor
open Go.RowKit
theorem RowI.few {lo : Nat} {w : World} {v : Value} {xs : List Int} (h : RowI lo w v xs) : xs.length <= 9223372036854775807:=by
 rcases h.2 with ⟨_,h0⟩ | ⟨g,cap,cur,_,_,_,r4,r5,_⟩
 ·omega
 ·unfold maxLen at r5;omega
end Go.Proofs.YtageielcdebjlaaGreatDoor
-- Awake
namespace Go.Proofs.YtageielcdebjlaaGreatDoor
open Go.RowKit
end Go.Proofs.YtageielcdebjlaaGreatDoor
-- Law7
namespace Go.Proofs.YtageielcdebjlaaGreatDoor
open Go.RowKit
def Nums (w : World) (ao : Option Addr) (len : Nat) : Prop:=∀ i,i < len -> ∃ a n,ao = some a /\ a.block < w.heap.size /\ w.cell? (a.add i) = some (.int .i64 n) /\ -9223372036854775808 <= n /\ n <= 9223372036854775807
theorem light_any (ao : Option Addr) (len cap : Nat) (w : World) :
  Calls Tryz.prog 15 #[.slice ao len cap] w fun e w' => e = .returned (.bool (decide ((len : Int) <= 400))) /\ w' = w:=by
 go_enter Tryz.func15,Tryz.ntmps15;go_wp2_with fail;go_ret;exact ⟨rfl,rfl⟩
theorem roll_any (ao : Option Addr) (len cap : Nat) (w : World) (hl : len <= 400) (hn : Nums w ao len) :
  Calls Tryz.prog 18 #[.slice ao len cap] w fun e w' => e = .returned (.pointer (some ⟨w.heap.size,0,none⟩)) /\ Dice w.heap.size w' /\ Below w.heap.size w w' /\ w.heap.size + 1 <= w'.heap.size:=by
 go_enter Tryz.func18,Tryz.ntmps18;go_wp2_with fail;go_ret;have hb : Below w.heap.size w (w.alloc (.cells #[.slice ao len cap,.int .i64 0] 124)):=(Below.refl _ w).alloc (Nat.le_refl _) _;refine ⟨rfl,⟨ao,len,cap,0,⟨heap_alloc_new w _,Nat.zero_le _,hl,fun i hi => ?_⟩⟩,hb,by simp⟩;obtain ⟨a,n,ha,hlt,hc,hn⟩:=hn i hi;exact ⟨a,n,ha,hlt,(hb.cell (p:=a.add i) (by rw [addr_add_block];omega)).trans hc,hn⟩
structure Ent where
 inst : Int
 mins : Int
 uid : ByteArray
 deriving DecidableEq
def aCells (l : List Ent) : List Value:=l.flatMap fun n => [.int .i64 n.inst,.int .i64 n.mins,.string n.uid]
def RowA (lo : Nat) (w : World) (v : Value) (l : List Ent) : Prop:=w.ownsRow lo 57 3 v l.length (aCells l)
theorem aCells_snoc (l : List Ent) (n : Ent) : aCells (l ++ [n]) = aCells l ++ [.int .i64 n.inst,.int .i64 n.mins,.string n.uid]:=by unfold aCells;simp
theorem infoEnt : (Tryz.prog.info? 57).map (fun i => (i.zero,i.size,i.bytes)) = some (some (.agg #[.int .i64 0,.int .i64 0,.string ⟨#[]⟩]),3,32):=by kernel_rfl
def pickE (lo hi : Int) (e : Ev) (l : List Int) : List Ent:=(l.filter (fun t => decide (lo <= t) && decide (t < hi))).map (fun t => ⟨t,e.mins,e.uid⟩)
theorem pick_len (lo hi : Int) (e : Ev) (l : List Int) : (pickE lo hi e l).length <= l.length:=by
 unfold pickE;rw [List.length_map];exact List.length_filter_le _ _
theorem pick_take (lo hi : Int) (e : Ev) (l : List Int) (j : Nat) (t : Int) (h : l[j]? = some t) : pickE lo hi e (l.take (j + 1)) = pickE lo hi e (l.take j) ++ (if lo <= t /\ t < hi then [⟨t,e.mins,e.uid⟩] else []):=by
 obtain ⟨h1,h2⟩:=List.getElem?_eq_some_iff.1 h;unfold pickE;rw [List.take_succ_eq_append_getElem h1,List.filter_append,List.map_append,h2];congr 1
 by_cases k : lo <= t /\ t < hi
 ·rw [if_pos k];simp [k.1,k.2]
 ·rw [if_neg k,List.filter_cons_of_neg]
  ·rfl
  ·simpa using k
def agRun (code : Bool) (v : Int) (sh : List (Int × Int)) (lo hi : Int) : List Ev -> List Ent -> List Ent × Int
 | [],out => (out,0)
 | e :: r,out => if (startsV code v sh e).2 ≠ 0 then ([],(startsV code v sh e).2) else agRun code v sh lo hi r (out ++ pickE lo hi e (startsV code v sh e).1)
def agendaV (rv : Int) (es : List Ev) (code : Bool) (v : Int) (sh : List (Int × Int)) (lo hi : Int) : List Ent × Int :=
 if rdOk rv es = false then ([],1)
 else if (agRun code v sh lo hi (shownV rv es) []).2 ≠ 0 then ([],(agRun code v sh lo hi (shownV rv es) []).2)
 else if Tt.zoneV code v sh ≠ 0 then ([],Tt.zoneV code v sh)
 else ((agRun code v sh lo hi (shownV rv es) []).1,0)
theorem agenda32 (rv tag : Int) (ar : Option Addr) (cr : Nat) (rs : List (Ev × Value × Value)) (zn : ByteArray) (zv : Int) (az : Option Addr) (cz : Nat) (sh : List (Int × Int)) (lo hi : Int) (w : World) (hR : Seg w.heap.size w ar rs) (hZ : Shs w.heap.size w az sh)
  (hrl : rs.length <= 1000000) (hzl : sh.length <= 1000000) (hsr : ∀ t ∈ rs,t.1.days.ex.length <= 1000000 /\ t.1.days.xt.length <= 1000000) (hsm : (shownV rv (rs.map (·.1))).length <= 1) (hsb : ∀ e ∈ shownV rv (rs.map (·.1)),(startsV (Tt.code zn.data.toList) zv sh e).1.length <= 1) :
  Calls Tryz.prog 32 #[.agg #[.int .i64 rv,.int .i64 tag,.slice ar rs.length cr],.agg #[.string zn,.int .i64 zv,.slice az sh.length cz],.int .i64 lo,.int .i64 hi] w fun x w' => ∃ (pa : Option Addr) (ca : Nat) (l : List Ent) (c : Int),x = .returned (.tuple #[.slice pa l.length ca,.int .i64 c]) /\ (l,c) = agendaV rv (rs.map (·.1)) (Tt.code zn.data.toList) zv sh lo hi /\ RowA w.heap.size w' (.slice pa l.length ca) l /\ Below w.heap.size w w':=by
 obtain ⟨i0,hi0,hz0,hz1,hz2⟩:=info_parts infoEnt;obtain ⟨w0,hw0⟩ : ∃ w0,w0 = (w.alloc (.cells #[.int .i64 rv,.int .i64 tag,.slice ar rs.length cr] 24)).alloc (.cells #[.string zn,.int .i64 zv,.slice az sh.length cz] 50):=⟨_,rfl⟩
 have HRB:=Lh (show Blk w.heap.size #[.int .i64 rv,.int .i64 tag,.slice ar rs.length cr] 24 w0 from by rw [hw0];exact (Blk.new w _ _).alloc _);have HZB:=Lh (show Blk (w.heap.size + 1) #[.string zn,.int .i64 zv,.slice az sh.length cz] 50 w0 from by rw [hw0];exact Blk.new' (g:=w.heap.size + 1) _ _ _ (by simp));have HL:=Lh (show Below w.heap.size w w0 from by rw [hw0];exact (below_box w _).alloc (by simp) _);have HR:=Lh hR;have HZ:=Lh hZ;have HSR:=Lh hsr;have HSM:=Lh hsm;have HB1:=Lh hsb;obtain ⟨m,hm⟩ : ∃ m,m = rs.length:=⟨_,rfl⟩
 obtain ⟨zl,hzl2⟩ : ∃ zl,zl = sh.length:=⟨_,rfl⟩
 obtain ⟨es,hes⟩ : ∃ es,es = rs.map (·.1):=⟨_,rfl⟩
 have HLM:=Lh (show es.length = m from by simp [hm,hes]);have HZL:=Lh hzl2;have Hm:=Lh hm;have Hes:=Lh hes;have HV1 : Hid (∀ W,Below w.heap.size w W -> Calls Tryz.prog 24 #[.agg #[.int .i64 rv,.int .i64 tag,.slice ar m cr]] W fun e w' => e = .returned (.bool (rdOk rv es)) /\ Below W.heap.size W w'):=Lh (fun W hW => by
  have h:=valid24 rv tag es ar cr w.heap.size W hW.size (by rw [Hes.out];exact (HR.out.below hW).evs) (by rw [HLM.out];omega);rw [HLM.out] at h;exact h)
 have HV2 : Hid (∀ W,Below w.heap.size w W -> Calls Tryz.prog 64 #[.agg #[.int .i64 rv,.int .i64 tag,.slice ar m cr]] W fun x w' => ∃ (pu : Option Addr) (cu : Nat) (ts : List (Ev × Value × Value)),x = .returned (.slice pu ts.length cu) /\ ts.map (·.1) = shownV rv es /\ RowT W.heap.size w' (.slice pu ts.length cu) ts /\ Below W.heap.size W w'):=Lh (fun W hW => by
  have h:=shown64 rv tag ar cr rs W ((HR.out.below hW).mono hW.size) (by rw [<- Hm.out];omega) HSR.out;rw [<- Hm.out,<- Hes.out] at h;exact h)
 have HV3 : Hid (∀ W,Below w.heap.size w W -> Calls Tryz.prog 59 #[.agg #[.string zn,.int .i64 zv,.slice az zl cz]] W fun e w' => e = .returned (.int .i64 (Tt.zoneV (Tt.code zn.data.toList) zv sh)) /\ Below W.heap.size W w'):=Lh (fun W hW => by
  have h:=zone59 zn zv sh az cz w.heap.size W hW.size (HZ.out.below hW) (by rw [<- HZL.out];omega);rw [<- HZL.out] at h;exact h)
 rw [<- hes] at HSM HB1 ⊢;rw [<- hm,<- hzl2] at hw0 ⊢;rw [<- hm] at HRB hrl;rw [<- hzl2] at HZB hzl;clear hR hZ hsr hsm hsb hm hzl2 hes;have y0 : w0.cell? ⟨w.heap.size,0,none⟩ = some (.int .i64 rv):=HRB.out.cell 0;have y1 : w0.cell? ⟨w.heap.size,1,none⟩ = some (.int .i64 tag):=HRB.out.cell 1;have y2 : w0.cell? ⟨w.heap.size,2,none⟩ = some (.slice ar m cr):=HRB.out.cell 2;go_enter Tryz.func32,Tryz.ntmps32;go_upto_region 1 with (fail);rw [<- hw0];clear hw0;go_wp2_with fail;refine (HV1.out _ HL.out).mono ?_;rintro e w1 ⟨rfl,hb1⟩;have HRB1:=Lh (HRB.out.below hb1 HRB.out.lt);have HZB1:=Lh (HZB.out.below hb1 HZB.out.lt);have HL1:=Lh (HL.out.trans (hb1.mono HL.out.size));clear hb1 y0 y1 y2 HRB HZB HL HV1;by_cases hok : rdOk rv es = false
 ·have hnk : (!rdOk rv es) = true:=by rw [hok];rfl
  have HAV:=Lh (show agendaV rv es (Tt.code zn.data.toList) zv sh lo hi = ([],1) from by unfold agendaV;rw [if_pos hok]);go_wp2_with fail;go_ret2;exact ⟨none,0,[],1,rfl,HAV.out.symm,World.ownsRow_nil _ _ _ _,HL1.out⟩
 ·have hok : rdOk rv es = true:=by simpa using hok
  have hnk : (!rdOk rv es) = false:=by rw [hok];rfl
  have HOK:=Lh hok;have y0 : w1.cell? ⟨w.heap.size,0,none⟩ = some (.int .i64 rv):=HRB1.out.cell 0;have y1 : w1.cell? ⟨w.heap.size,1,none⟩ = some (.int .i64 tag):=HRB1.out.cell 1;have y2 : w1.cell? ⟨w.heap.size,2,none⟩ = some (.slice ar m cr):=HRB1.out.cell 2;go_wp2_with fail;refine (HV2.out _ HL1.out).mono ?_;rintro x w2 ⟨pu,cu,us,rfl,hus,hT2,hb2⟩;have HT2:=Lh (hT2.mono HL1.out.size);have HUS0:=Lh hus;have HZB2:=Lh (HZB1.out.below hb2 HZB1.out.lt);have HL2:=Lh (HL1.out.trans (hb2.mono HL1.out.size));clear hus hT2 hb2 y0 y1 y2 HRB1 HZB1 HL1 HV2 hnk;obtain ⟨ses,hses⟩ : ∃ ses,ses = shownV rv es:=⟨_,rfl⟩
  have HSES:=Lh hses.symm;have HUS:=Lh (show us.map (·.1) = ses from by rw [HUS0.out,hses]);rw [<- hses] at HSM HB1;clear hses HUS0;obtain ⟨n,hn⟩ : ∃ n,n = us.length:=⟨_,rfl⟩
  have Hn:=Lh hn;have HLN:=Lh (show ses.length = n from by rw [<- HUS.out,List.length_map,hn]);have hnn : n <= 1000000:=by
   have h1:=HUS.out;have h2 : ses.length <= es.length:=by
    rw [<- HSES.out];unfold shownV;split
    all_goals first | exact List.length_filter_le _ _ | exact Nat.zero_le _
   rw [HLM.out,HLN.out] at h2;omega
  have hn1 : n <= 1:=by rw [<- HLN.out];exact HSM.out
  rw [<- hn] at HT2 ⊢;clear hn;go_wp2_with fail;go_loopw [10,24] (fun s10 iv wr => ∃ (k : Nat) (pa : Option Addr) (ca : Nat) (ents : List Ent),s10 = .slice pa ents.length ca /\ iv = .int .i64 k /\ k <= n /\ ents.length <= k /\ Hid (RowA w.heap.size wr (.slice pa ents.length ca) ents) /\ Hid (agRun (Tt.code zn.data.toList) zv sh lo hi ses [] = agRun (Tt.code zn.data.toList) zv sh lo hi (ses.drop k) ents) /\ Hid (RowT w.heap.size wr (.slice pu n cu) us) /\ Hid (Blk (w.heap.size + 1) #[.string zn,.int .i64 zv,.slice az zl cz] 50 wr) /\ Hid (Below w.heap.size w wr)) (fun _ iv _ => n - (intOf iv).toNat)
  case atStart => exact ⟨0,none,0,[],rfl,rfl,Nat.zero_le _,Nat.le_refl _,Lh (World.ownsRow_nil _ _ _ _),Lh rfl,HT2,HZB2,HL2⟩
  case round =>
   clear HT2 HZB2 HL2;obtain ⟨k,pa,ca,ents,rfl,rfl,hk,hek,HA,HREL,HT,HZB,HL⟩:=hrel;have hNr : w.heap.size <= wr.heap.size:=HL.out.size;by_cases hlt : k < n
   ·have hlti : (k : Int) < n:=by omega
    obtain ⟨t,ht⟩ : ∃ t,us[k]? = some t:=⟨_,List.getElem?_eq_getElem (by rw [<- Hn.out];exact hlt)⟩
    obtain ⟨e,va,vb⟩:=t;obtain ⟨bf,hpu⟩ : ∃ g,pu = some ⟨g,0,none⟩:=by
     rcases HT.out.row.2 with ⟨_,h0⟩ | ⟨g,cap,cur,hv,_⟩
     ·rw [<- Hn.out] at h0;omega
     ·simp only [Value.slice.injEq] at hv;exact ⟨g,hv.1⟩
    subst hpu;have hev:=HT.out.ev k _ ht;have hRf:=HT.out.ref _ (List.mem_of_getElem? ht);obtain ⟨hEB,hja,hjb⟩:=id hRf;obtain ⟨pe,ke,hva,hia⟩:=hja.ints;obtain ⟨pf,kf,hvb,hib⟩:=hjb.ints;clear hja hjb;simp only at hva hvb hia hib;subst hva;subst hvb;have HFK:=Lh (show ses[k]? = some e from by rw [<- HUS.out,List.getElem?_map,ht];rfl);obtain ⟨c0,c1,c2,c3,c4,c5,c6,c7,c8,c9,c10,c11,c12⟩:=hev;simp only at c0 c1 c2 c3 c4 c5 c6 c7 c8 c9 c10 c11 c12;obtain ⟨X,hX⟩ : ∃ X,X = wr.alloc (.cells #[.string e.uid,.int .i64 e.seq,.bool e.canc,.int .i64 e.days.first,.int .i64 e.days.last,.int .i64 e.days.every,.int .i64 e.days.wd,.slice pe e.days.ex.length ke,.slice pf e.days.xt.length kf,.int .i64 e.start,.int .i64 e.mins,.string e.summ,.string e.loc] 82):=⟨_,rfl⟩
    have HXE:=Lh (show Blk wr.heap.size (evCells e (.slice pe e.days.ex.length ke) (.slice pf e.days.xt.length kf)) 82 X from by rw [hX];exact Blk.new wr _ _);have HX:=Lh (show Below wr.heap.size wr X from by rw [hX];exact below_box wr _);have hNX : w.heap.size <= X.heap.size:=by have:=HX.out.size;omega
    have HLX:=Lh (HL.out.trans (HX.out.mono hNr));have HTX:=Lh (HT.out.made HX.out);have HAX:=Lh (row_made HA.out HX.out);have HZX:=Lh (HZB.out.below HX.out HZB.out.lt);have HST:=Lh (show Calls Tryz.prog 55 #[.agg #[.string e.uid,.int .i64 e.seq,.bool e.canc,.int .i64 e.days.first,.int .i64 e.days.last,.int .i64 e.days.every,.int .i64 e.days.wd,.slice pe e.days.ex.length ke,.slice pf e.days.xt.length kf,.int .i64 e.start,.int .i64 e.mins,.string e.summ,.string e.loc],.agg #[.string zn,.int .i64 zv,.slice az zl cz]] X fun x w' => ∃ u,x = .returned (.tuple #[u,.int .i64 (startsV (Tt.code zn.data.toList) zv sh e).2]) /\ w'.ownsRow X.heap.size 3 1 u (startsV (Tt.code zn.data.toList) zv sh e).1.length ((startsV (Tt.code zn.data.toList) zv sh e).1.map (Value.int .i64)) /\ Below X.heap.size X w' from by
     have h:=starts55 zn zv sh az cz e X.heap.size X pe pf ke kf (Nat.le_refl _) ((hia.below HX.out).mono HX.out.size) ((hib.below HX.out).mono HX.out.size) hEB hEB.uid ((HZ.out.below HLX.out).mono hNX) (by rw [<- HZL.out];omega);rw [<- HZL.out] at h;exact h)
    clear hEB hia hib hRf ht;go_upto_region 7 with (fail);rw [<- hX];clear hX HT HL HA HZB c0 c1 c2 c3 c4 c5 c6 c7 c8 c9 c10 c11 c12;have y0 : X.cell? ⟨wr.heap.size,0,none⟩ = some (.string e.uid):=HXE.out.cell 0;have y1 : X.cell? ⟨wr.heap.size,1,none⟩ = some (.int .i64 e.seq):=HXE.out.cell 1;have y2 : X.cell? ⟨wr.heap.size,2,none⟩ = some (.bool e.canc):=HXE.out.cell 2;have y3 : X.cell? ⟨wr.heap.size,3,none⟩ = some (.int .i64 e.days.first):=HXE.out.cell 3;have y4 : X.cell? ⟨wr.heap.size,4,none⟩ = some (.int .i64 e.days.last):=HXE.out.cell 4;have y5 : X.cell? ⟨wr.heap.size,5,none⟩ = some (.int .i64 e.days.every):=HXE.out.cell 5;have y6 : X.cell? ⟨wr.heap.size,6,none⟩ = some (.int .i64 e.days.wd):=HXE.out.cell 6;have y7 : X.cell? ⟨wr.heap.size,7,none⟩ = some (.slice pe e.days.ex.length ke):=HXE.out.cell 7;have y8 : X.cell? ⟨wr.heap.size,8,none⟩ = some (.slice pf e.days.xt.length kf):=HXE.out.cell 8;have y9 : X.cell? ⟨wr.heap.size,9,none⟩ = some (.int .i64 e.start):=HXE.out.cell 9;have y10 : X.cell? ⟨wr.heap.size,10,none⟩ = some (.int .i64 e.mins):=HXE.out.cell 10;have y11 : X.cell? ⟨wr.heap.size,11,none⟩ = some (.string e.summ):=HXE.out.cell 11;have y12 : X.cell? ⟨wr.heap.size,12,none⟩ = some (.string e.loc):=HXE.out.cell 12;have z0 : X.cell? ⟨w.heap.size + 1,0,none⟩ = some (.string zn):=HZX.out.cell 0;have z1 : X.cell? ⟨w.heap.size + 1,1,none⟩ = some (.int .i64 zv):=HZX.out.cell 1;have z2 : X.cell? ⟨w.heap.size + 1,2,none⟩ = some (.slice az zl cz):=HZX.out.cell 2;go_wp2_with fail;refine HST.out.mono ?_;rintro x X1 ⟨u,rfl,hu,hb1⟩;obtain ⟨SL,hSL⟩ : ∃ SL,SL = (startsV (Tt.code zn.data.toList) zv sh e).1:=⟨_,rfl⟩
    obtain ⟨SC,hSC⟩ : ∃ SC,SC = (startsV (Tt.code zn.data.toList) zv sh e).2:=⟨_,rfl⟩
    have HSL:=Lh hSL;have HSC:=Lh hSC;rw [<- hSL] at hu;rw [<- hSC];have hu : RowI X.heap.size X1 u SL:=hu;obtain ⟨ps,cs,hus⟩:=hu.slice;subst hus;have hSn:=hu.few;have HU:=Lh hu;clear hu hSL hSC;obtain ⟨sn,hsn⟩ : ∃ sn,sn = SL.length:=⟨_,rfl⟩
    have HSN:=Lh hsn;rw [<- hsn] at hSn ⊢;clear hsn;have HX1:=Lh (HX.out.trans (hb1.mono HX.out.size));have HE1:=Lh (HXE.out.below hb1 HXE.out.lt);have HT1:=Lh (HTX.out.made hb1);have HA1:=Lh (row_made HAX.out hb1);have HZ1:=Lh (HZX.out.below hb1 HZX.out.lt);have HL1:=Lh (HLX.out.trans (hb1.mono hNX));clear hb1 HXE HTX HAX HZX HLX HX HST z0 z1 z2 y0 y1 y2 y3 y4 y5 y6 y7 y8 y9 y10 y11 y12;obtain ⟨E,hE⟩ : ∃ E,E = wr.heap.size:=⟨_,rfl⟩
    rw [<- hE] at HE1 ⊢;clear hE;have hs1 : sn <= 1:=by have h:=HB1.out e (by have:=List.mem_of_getElem? HFK.out;exact this);rw [<- HSL.out] at h;rw [HSN.out];exact h
    by_cases hsc : SC ≠ 0
    ·have HEND:=Lh (show agRun (Tt.code zn.data.toList) zv sh lo hi ses [] = ([],SC) from by rw [HREL.out,List.drop_eq_getElem_cons (List.getElem?_eq_some_iff.1 HFK.out).1,(List.getElem?_eq_some_iff.1 HFK.out).2,agRun,<- HSC.out,if_pos hsc]);have HAV:=Lh (show agendaV rv es (Tt.code zn.data.toList) zv sh lo hi = ([],SC) from by unfold agendaV;rw [if_neg (by rw [HOK.out];simp),HSES.out,HEND.out,if_pos hsc]);go_wp2_with fail;go_ret2;exact ⟨none,0,[],SC,rfl,HAV.out.symm,World.ownsRow_nil _ _ _ _,HL1.out⟩
    ·have hsc : SC = 0:=Decidable.of_not_not hsc;subst hsc;have HSTEP:=Lh (show agRun (Tt.code zn.data.toList) zv sh lo hi ses [] = agRun (Tt.code zn.data.toList) zv sh lo hi (ses.drop (k + 1)) (ents ++ pickE lo hi e SL) from by rw [HREL.out,List.drop_eq_getElem_cons (List.getElem?_eq_some_iff.1 HFK.out).1,(List.getElem?_eq_some_iff.1 HFK.out).2,agRun,<- HSC.out,if_neg (by simp),<- HSL.out]);go_wp2_with fail;go_loopw [10,39] (fun s10 jv wr => ∃ (j : Nat) (pn : Option Addr) (cn : Nat) (ns : List Ent),s10 = .slice pn ns.length cn /\ jv = .int .i64 j /\ j <= sn /\ Hid (RowA w.heap.size wr (.slice pn ns.length cn) ns) /\ Hid (ns = ents ++ pickE lo hi e (SL.take j)) /\ Hid (RowI X.heap.size wr (.slice ps sn cs) SL) /\ Hid (RowT w.heap.size wr (.slice (some ⟨bf,0,none⟩) n cu) us) /\ Hid (Blk (w.heap.size + 1) #[.string zn,.int .i64 zv,.slice az zl cz] 50 wr) /\ Hid (Blk E (evCells e (.slice pe e.days.ex.length ke) (.slice pf e.days.xt.length kf)) 82 wr) /\ Hid (Below w.heap.size w wr)) (fun _ jv _ => sn - (intOf jv).toNat)
     case atStart => exact ⟨0,pa,ca,ents,rfl,rfl,Nat.zero_le _,HA1,Lh (by simp [pickE]),Lh (by rw [HSN.out];exact HU.out),HT1,HZ1,HE1,HL1⟩
     case round =>
      clear HA1 HU HT1 HZ1 HE1 HL1;obtain ⟨j,pn,cn,ns,rfl,rfl,hj,HA,HNS,HU,HT,HZB,HE,HL⟩:=hrel;by_cases hjl : j < sn
      ·have hjli : (j : Int) < sn:=by omega
       obtain ⟨T,hT⟩ : ∃ T,SL[j]? = some T:=⟨_,List.getElem?_eq_getElem (by rw [<- HSN.out];exact hjl)⟩
       obtain ⟨ad,had, -,hcT⟩ : ∃ a,ps = some a /\ a.block < 0 + (a.block + 1) /\ (a.add j).block = (a.add j).block:=by
        obtain ⟨a2,c2,h1,h2⟩:=HU.out.ints;simp only [Value.slice.injEq] at h1;obtain ⟨a,ha,_,_⟩:=h2 j T hT;exact ⟨a,by rw [h1.1,ha],by omega,rfl⟩
       have hcell : wr.cell? (ad.add j) = some (.int .i64 T):=by
        obtain ⟨a2,c2,h1,h2⟩:=HU.out.ints;simp only [Value.slice.injEq] at h1;obtain ⟨a,ha,_,h3⟩:=h2 j T hT;rw [had] at h1;rw [ha] at h1;simp only [Option.some.injEq] at h1;rw [h1.1];exact h3
       subst had;clear hcT;have HTK:=Lh hT;clear hT;have y0 : wr.cell? ⟨E,0,none⟩ = some (.string e.uid):=HE.out.cell 0;have y10 : wr.cell? ⟨E,10,none⟩ = some (.int .i64 e.mins):=HE.out.cell 10;by_cases h1 : lo <= T
       ·by_cases h2 : T < hi
        ·have hnl : ns.length <= 1:=by rw [HNS.out,List.length_append];have h:=pick_len lo hi e (SL.take j);rw [List.length_take] at h;omega
         have hA1 : ns.length + 1 <= maxLen:=by unfold maxLen;omega
         have hA2 : (ns.length + 1) * 32 <= 140737488355328:=by omega
         have hNq:=HL.out.size;have HK:=Lh (And.intro h1 h2);clear hnl;go_wp2_with (at_builtin;refine wpList_append_own_at _ rfl (.tmp 51) (.tmp 58) 53 rfl w.heap.size 57 i0 _ 3 32 Tryz.underlying53 hi0 hz0 hz1 hz2 rfl (by decide) _ _ _ rfl (World.ownsRow.alloc HA.out (.cells #[.int .i64 T,.int .i64 e.mins,.string e.uid] 57)) ⟨wr.heap.size,0,none⟩ 1 1 [.int .i64 T,.int .i64 e.mins,.string e.uid] rfl rfl (blk_cells (Blk.new wr #[.int .i64 T,.int .i64 e.mins,.string e.uid] 57)) (by intro u hu;simp only [List.mem_cons,List.not_mem_nil,or_false] at hu;rcases hu with rfl | rfl | rfl <;> rfl) hA1 hA2 (by simp;omega) ?_);intro v' x8 hown8 hgrow _ _;obtain ⟨p8,q8,hv8⟩:=ownsRow_len hown8;subst hv8;have HA8:=Lh (show RowA w.heap.size x8 (.slice p8 (ns ++ [(⟨T,e.mins,e.uid⟩ : Ent)]).length q8) (ns ++ [(⟨T,e.mins,e.uid⟩ : Ent)]) from by unfold RowA;rw [aCells_snoc,List.length_append];exact hown8);have HNS8:=Lh (show ns ++ [⟨T,e.mins,e.uid⟩] = ents ++ pickE lo hi e (SL.take (j + 1)) from by rw [HNS.out,pick_take lo hi e SL j T HTK.out,if_pos HK.out,List.append_assoc]);have kp : ∀ {lo2 k2 n2 : Nat} {v2 : Value} {xs2 : List Value} {ty : TypeId},ty ≠ 57 -> wr.ownsRow lo2 ty k2 v2 n2 xs2 -> x8.ownsRow lo2 ty k2 v2 n2 xs2:=fun hty h => World.ownsRow.kept (World.ownsRow.alloc h (.cells #[.int .i64 T,.int .i64 e.mins,.string e.uid] 57)) hgrow (row_apart_ty (World.ownsRow.alloc h (.cells #[.int .i64 T,.int .i64 e.mins,.string e.uid] 57)) (World.ownsRow.alloc HA.out (.cells #[.int .i64 T,.int .i64 e.mins,.string e.uid] 57)) hty)
         have HU8:=Lh (show RowI X.heap.size x8 (.slice (some ad) sn cs) SL from kp (by decide) HU.out);have HT8:=Lh (show RowT w.heap.size x8 (.slice (some ⟨bf,0,none⟩) n cu) us from ⟨kp (by decide) HT.out.row,fun s hs => ⟨(HT.out.ref s hs).1,kp (by decide) (HT.out.ref s hs).2.1,kp (by decide) (HT.out.ref s hs).2.2⟩⟩);have HZ8:=Lh ((HZB.out.alloc (.cells #[.int .i64 T,.int .i64 e.mins,.string e.uid] 57)).grown (World.ownsRow.alloc HA.out (.cells #[.int .i64 T,.int .i64 e.mins,.string e.uid] 57)) hgrow (by decide));have HE8:=Lh ((HE.out.alloc (.cells #[.int .i64 T,.int .i64 e.mins,.string e.uid] 57)).grown (World.ownsRow.alloc HA.out (.cells #[.int .i64 T,.int .i64 e.mins,.string e.uid] 57)) hgrow (by decide));have HL8:=Lh (below_grownBy (HL.out.alloc hNq (.cells #[.int .i64 T,.int .i64 e.mins,.string e.uid] 57)) (World.ownsRow.alloc HA.out (.cells #[.int .i64 T,.int .i64 e.mins,.string e.uid] 57)) (Nat.le_refl _) (by simp;omega) hgrow);clear hown8 hgrow kp HA HU HT HZB HE HL y0 y10 hcell h1 h2;go_wp2_with fail;go_roundw
         case rel => exact ⟨j + 1,p8,q8,ns ++ [⟨T,e.mins,e.uid⟩],by simp,by go_num,by omega,HA8,HNS8,HU8,HT8,HZ8,HE8,HL8⟩
         case measure => simp [intOf];omega
        ·go_wp2_with fail;go_roundw
         case rel => exact ⟨j + 1,pn,cn,ns,rfl,by go_num,by omega,HA,Lh (by rw [HNS.out,pick_take lo hi e SL j T HTK.out,if_neg (by omega),List.append_nil]),HU,HT,HZB,HE,HL⟩
         case measure => simp [intOf];omega
       ·go_wp2_with fail;go_roundw
        case rel => exact ⟨j + 1,pn,cn,ns,rfl,by go_num,by omega,HA,Lh (by rw [HNS.out,pick_take lo hi e SL j T HTK.out,if_neg (by omega),List.append_nil]),HU,HT,HZB,HE,HL⟩
        case measure => simp [intOf];omega
      ·have hjli : ¬ (j : Int) < sn:=by omega
       have hjn : j = sn:=by omega
       have HNS2:=Lh (show ns = ents ++ pickE lo hi e SL from by rw [HNS.out,hjn,HSN.out,List.take_length]);clear hjn;go_wp2_with fail;go_roundw
       case rel => exact ⟨k + 1,pn,cn,ns,rfl,by go_num,by omega,by rw [HNS2.out,List.length_append];have h:=pick_len lo hi e SL;have:=HSN.out;omega,HA,Lh (by rw [HSTEP.out,HNS2.out]),HT,HZB,HL⟩
       case measure => simp [intOf];omega
   ·have hlti : ¬ (k : Int) < n:=by omega
    have hkn : k = n:=by omega
    have HEND:=Lh (show agRun (Tt.code zn.data.toList) zv sh lo hi ses [] = (ents,0) from by rw [HREL.out,List.drop_eq_nil_of_le (by rw [HLN.out];omega)];rfl);have hel : ents.length <= 1:=by omega
    clear hkn;have z0 : wr.cell? ⟨w.heap.size + 1,0,none⟩ = some (.string zn):=HZB.out.cell 0;have z1 : wr.cell? ⟨w.heap.size + 1,1,none⟩ = some (.int .i64 zv):=HZB.out.cell 1;have z2 : wr.cell? ⟨w.heap.size + 1,2,none⟩ = some (.slice az zl cz):=HZB.out.cell 2;go_wp2_with fail;refine (HV3.out _ HL.out).mono ?_;rintro x w3 ⟨rfl,hb3⟩;obtain ⟨ZV,hZV⟩ : ∃ ZV,ZV = Tt.zoneV (Tt.code zn.data.toList) zv sh:=⟨_,rfl⟩
    have HZV:=Lh hZV;rw [<- hZV];have HA3:=Lh (row_made HA.out hb3);have HL3:=Lh (HL.out.trans (hb3.mono hNr));clear hZV hb3 z0 z1 z2 HA HT HZB HL;by_cases hzv : ZV ≠ 0
    ·have HAV:=Lh (show agendaV rv es (Tt.code zn.data.toList) zv sh lo hi = ([],ZV) from by unfold agendaV;rw [if_neg (by rw [HOK.out];simp),HSES.out,HEND.out,if_neg (by simp),<- HZV.out,if_pos hzv]);go_wp2_with fail;go_ret2;exact ⟨none,0,[],ZV,rfl,HAV.out.symm,World.ownsRow_nil _ _ _ _,HL3.out⟩
    ·have hzv : ZV = 0:=Decidable.of_not_not hzv;subst hzv;have HAV:=Lh (show agendaV rv es (Tt.code zn.data.toList) zv sh lo hi = (ents,0) from by unfold agendaV;rw [if_neg (by rw [HOK.out];simp),HSES.out,HEND.out,if_neg (by simp),<- HZV.out,if_neg (by simp)]);have HSO:=Lh (sort87_small pa ents.length ca w3 hel);clear hel;go_wp2_with fail;refine HSO.out.mono ?_;rintro x w4 ⟨rfl,hw⟩;rw [hw];clear hw w4;go_wp2_with fail;go_ret2;exact ⟨pa,ca,ents,0,rfl,HAV.out.symm,HA3.out,HL3.out⟩
def e0 : Ev:=⟨⟨#[99,64,49]⟩,1,false,⟨2,2,1,1,[],[]⟩,0,45,⟨#[99]⟩,⟨#[]⟩⟩
theorem valid0 : evsV 1 none [e0] = 0:=by kernel_rfl
theorem feed0 : feedV ⟨#[120]⟩ 1 [e0] = 0:=by kernel_rfl
theorem rd0 : rdOk 0 [] = true:=by decide
theorem rd1 : rdOk 1 [e0] = true:=by unfold rdOk;rw [valid0];decide
theorem mrg0 : mrg [] [e0] = ([e0],[⟨1,e0.uid,1⟩]):=by kernel_rfl
theorem merge0 : mergeV 0 0 [] ⟨#[120]⟩ 1 [e0] = (1,0,[e0],[⟨1,e0.uid,1⟩],0):=by
 unfold mergeV;rw [if_neg (by rw [rd0];simp),if_neg (by rw [feed0];simp),if_neg (by decide),mrg0];rfl
theorem merge1 : mergeV 1 0 [e0] ⟨#[120]⟩ 1 [e0] = (1,0,[e0],[],0):=by
 unfold mergeV;rw [if_neg (by rw [rd1];simp),if_neg (by rw [feed0];simp),if_pos (by decide)]
theorem starts0 : startsV (Tt.code (⟨#[122]⟩ : ByteArray).data.toList) 60 [] e0 = ([2820],0):=by kernel_rfl
theorem zone0 : Tt.zoneV (Tt.code (⟨#[122]⟩ : ByteArray).data.toList) 60 [] = 0:=by kernel_rfl
theorem shown0 : shownV 1 [e0] = [e0]:=by unfold shownV;rw [if_pos rd1];rfl
theorem run0 : agRun (Tt.code (⟨#[122]⟩ : ByteArray).data.toList) 60 [] 0 9999 [e0] [] = ([⟨2820,45,e0.uid⟩],0):=by
 unfold agRun;rw [starts0,if_neg (by simp)];rfl
theorem agenda0 : agendaV 1 [e0] (Tt.code (⟨#[122]⟩ : ByteArray).data.toList) 60 [] 0 9999 = ([⟨2820,45,e0.uid⟩],0):=by
 unfold agendaV;rw [if_neg (by rw [rd1];simp),shown0,run0,if_neg (by simp),zone0,if_neg (by simp)]
theorem evb0 : EvB e0:=⟨by decide,by decide,by decide,by decide,by decide⟩
theorem one_of {us : List (Ev × Value × Value)} {e : Ev} (h : us.map (·.1) = [e]) : ∃ a b,us = [(e,a,b)]:=by
 match us,h with
 | [(x,a,b)],h => simp at h;exact ⟨a,b,by rw [h]⟩
theorem RowT.seg1 {lo : Nat} {w : World} {pu : Option Addr} {cu : Nat} {t : Ev × Value × Value} (h : RowT lo w (.slice pu 1 cu) [t]) : Seg w.heap.size w pu [t]:=by
 obtain ⟨ao,c,h1,_,h3⟩:=h.seg;simp only [Value.slice.injEq] at h1;obtain ⟨rfl, -,rfl⟩:=h1;exact h3
theorem awake17 (w : World) : Calls Tryz.prog 17 #[] w fun e w' => e = .returned (.bool true) /\ Below w.heap.size w w':=by
 obtain ⟨w1,hw1⟩ : ∃ w1,w1 = (w.alloc (.cells #[.string ⟨#[99,64,49]⟩,.int .i64 1,.bool false,.int .i64 2,.int .i64 2,.int .i64 1,.int .i64 1,.slice none 0 0,.slice none 0 0,.int .i64 0,.int .i64 45,.string ⟨#[99]⟩,.string ⟨#[]⟩] 82)).alloc (.cells #[.string ⟨#[120]⟩,.int .i64 1,.slice (some ⟨w.heap.size,0,none⟩) 1 1] 26):=⟨_,rfl⟩
 have HA:=Lh (show Blk w.heap.size (evCells e0 (.slice none 0 0) (.slice none 0 0)) 82 w1 from by rw [hw1];exact (Blk.new w _ _).alloc _);have HF:=Lh (show Blk (w.heap.size + 1) #[.string ⟨#[120]⟩,.int .i64 1,.slice (some ⟨w.heap.size,0,none⟩) 1 1] 26 w1 from by rw [hw1];exact Blk.new' (g:=w.heap.size + 1) _ _ _ (by simp));have HL:=Lh (show Below w.heap.size w w1 from by rw [hw1];exact (below_box w _).alloc (by simp) _);have HSg:=Lh (show Seg w1.heap.size w1 (some ⟨w.heap.size,0,none⟩) [(e0,.slice none 0 0,.slice none 0 0)] from ⟨.inr ⟨w.heap.size,0,rfl,HA.out.lt,fun j u hj => by
  rw [tCells_sole] at hj;rw [Nat.zero_add,HA.out.cell];simpa using hj⟩,fun t ht => by
  rw [List.mem_singleton.1 ht];exact ⟨evb0,⟨none,0,rfl,fun j x h => by simp [e0] at h⟩,⟨none,0,rfl,fun j x h => by simp [e0] at h⟩⟩⟩)
 have HLS : Hid (∀ t ∈ [(e0,Value.slice none 0 0,Value.slice none 0 0)],t.1.days.ex.length <= 1000000 /\ t.1.days.xt.length <= 1000000):=Lh (fun t ht => by rw [List.mem_singleton.1 ht];decide);have HM1 : Hid (Calls Tryz.prog 26 #[.agg #[.int .i64 0,.int .i64 0,.slice none 0 0],.agg #[.string ⟨#[120]⟩,.int .i64 1,.slice (some ⟨w.heap.size,0,none⟩) 1 1]] w1 (Merged 0 0 [] ⟨#[120]⟩ 1 [e0] w1)):=Lh (merge26 0 0 none 0 [] ⟨#[120]⟩ 1 (some ⟨w.heap.size,0,none⟩) 1 [(e0,.slice none 0 0,.slice none 0 0)] w1 (Seg.nil _ _ _) HSg.out (by decide) (by decide) (fun t h => by cases h) HLS.out);go_enter Tryz.func17,Tryz.ntmps17;go_upto_region 2 with (fail);rw [<- hw1];clear hw1;have f0 : w1.cell? ⟨w.heap.size + 1,0,none⟩ = some (.string ⟨#[120]⟩):=HF.out.cell 0;have f1 : w1.cell? ⟨w.heap.size + 1,1,none⟩ = some (.int .i64 1):=HF.out.cell 1;have f2 : w1.cell? ⟨w.heap.size + 1,2,none⟩ = some (.slice (some ⟨w.heap.size,0,none⟩) 1 1):=HF.out.cell 2;go_wp2_with fail;refine HM1.out.mono ?_;rintro x w2 ⟨v',tag',c,pu,cu,us,pn,cn,ns,rfl,hv,hT,hN,hb⟩;rw [merge0] at hv;simp only [Prod.mk.injEq] at hv;obtain ⟨rfl,rfl,hus,rfl,rfl⟩:=hv;obtain ⟨a,b,rfl⟩:=one_of hus;have hT : RowT w1.heap.size w2 (.slice pu 1 cu) [(e0,a,b)]:=hT;have hN : RowN w1.heap.size w2 (.slice pn 1 cn) [⟨1,e0.uid,1⟩]:=hN;obtain ⟨w3,hw3⟩ : ∃ w3,w3 = w2.alloc (.cells #[.int .i64 1,.int .i64 0,.slice pu 1 cu] 24):=⟨_,rfl⟩
 obtain ⟨R,hR⟩ : ∃ R,R = w2.heap.size:=⟨_,rfl⟩
 have HR3:=Lh (show Blk R #[.int .i64 1,.int .i64 0,.slice pu 1 cu] 24 w3 from by rw [hw3,hR];exact Blk.new w2 _ _);have HT3:=Lh (show RowT w1.heap.size w3 (.slice pu 1 cu) [(e0,a,b)] from by rw [hw3];exact hT.alloc _);have HN3:=Lh (show RowN w1.heap.size w3 (.slice pn 1 cn) [⟨1,e0.uid,1⟩] from by rw [hw3];exact World.ownsRow.alloc hN _);have HB3:=Lh (show Below w1.heap.size w1 w3 from by rw [hw3];exact hb.alloc hb.size _);clear hus hT hN hb f0 f1 f2 HM1;go_upto_region 3 with (fail);rw [<- hw3,<- hR];clear hw3 hR;have hs3:=HB3.out.size;have HF3:=Lh (HF.out.below HB3.out HF.out.lt);have HSg3:=Lh ((HSg.out.below HB3.out).mono hs3);have HM2 : Hid (Calls Tryz.prog 26 #[.agg #[.int .i64 1,.int .i64 0,.slice pu 1 cu],.agg #[.string ⟨#[120]⟩,.int .i64 1,.slice (some ⟨w.heap.size,0,none⟩) 1 1]] w3 (Merged 1 0 [e0] ⟨#[120]⟩ 1 [e0] w3)):=Lh (merge26 1 0 pu cu [(e0,a,b)] ⟨#[120]⟩ 1 (some ⟨w.heap.size,0,none⟩) 1 [(e0,.slice none 0 0,.slice none 0 0)] w3 HT3.out.seg1 HSg3.out (show 1 <= 1000000000 by decide) (by decide) (fun t ht => by rw [List.mem_singleton.1 ht];exact ⟨Nat.zero_le _,Nat.zero_le _⟩) HLS.out);have f0 : w3.cell? ⟨w.heap.size + 1,0,none⟩ = some (.string ⟨#[120]⟩):=HF3.out.cell 0;have f1 : w3.cell? ⟨w.heap.size + 1,1,none⟩ = some (.int .i64 1):=HF3.out.cell 1;have f2 : w3.cell? ⟨w.heap.size + 1,2,none⟩ = some (.slice (some ⟨w.heap.size,0,none⟩) 1 1):=HF3.out.cell 2;have r0 : w3.cell? ⟨R,0,none⟩ = some (.int .i64 1):=HR3.out.cell 0;have r1 : w3.cell? ⟨R,1,none⟩ = some (.int .i64 0):=HR3.out.cell 1;have r2 : w3.cell? ⟨R,2,none⟩ = some (.slice pu 1 cu):=HR3.out.cell 2;go_wp2_with fail;refine HM2.out.mono ?_;rintro x w4 ⟨v',tag',c,pu2,cu2,us,pn2,cn2,ns,rfl,hv,hT,hN,hb⟩;rw [merge1] at hv;simp only [Prod.mk.injEq] at hv;obtain ⟨rfl,rfl,hus,rfl,rfl⟩:=hv;obtain ⟨a2,b2,rfl⟩:=one_of hus;have hT : RowT w3.heap.size w4 (.slice pu2 1 cu2) [(e0,a2,b2)]:=hT;obtain ⟨w5,hw5⟩ : ∃ w5,w5 = w4.alloc (.cells #[.int .i64 1,.int .i64 0,.slice pu2 1 cu2] 24):=⟨_,rfl⟩
 obtain ⟨R2,hR2⟩ : ∃ R2,R2 = w4.heap.size:=⟨_,rfl⟩
 have HR5:=Lh (show Blk R2 #[.int .i64 1,.int .i64 0,.slice pu2 1 cu2] 24 w5 from by rw [hw5,hR2];exact Blk.new w4 _ _);have HT5:=Lh (show RowT w3.heap.size w5 (.slice pu2 1 cu2) [(e0,a2,b2)] from by rw [hw5];exact hT.alloc _);have HB5:=Lh (show Below w3.heap.size w3 w5 from by rw [hw5];exact hb.alloc hb.size _);have HN5:=Lh (show RowN w1.heap.size w5 (.slice pn 1 cn) [⟨1,e0.uid,1⟩] from row_made HN3.out HB5.out);clear hus hT hN hb f0 f1 f2 r0 r1 r2 HM2;go_upto_region 4 with (fail);rw [<- hw5,<- hR2];clear hw5 hR2;have HAG : Hid (Calls Tryz.prog 32 #[.agg #[.int .i64 1,.int .i64 0,.slice pu2 1 cu2],.agg #[.string ⟨#[122]⟩,.int .i64 60,.slice none 0 0],.int .i64 0,.int .i64 9999] w5 fun x w' => ∃ (pa : Option Addr) (ca : Nat) (l : List Ent) (c : Int),x = .returned (.tuple #[.slice pa l.length ca,.int .i64 c]) /\ (l,c) = agendaV 1 [e0] (Tt.code (⟨#[122]⟩ : ByteArray).data.toList) 60 [] 0 9999 /\ RowA w5.heap.size w' (.slice pa l.length ca) l /\ Below w5.heap.size w5 w'):=Lh (agenda32 1 0 pu2 cu2 [(e0,a2,b2)] ⟨#[122]⟩ 60 none 0 [] 0 9999 w5 HT5.out.seg1 (.inl rfl) (show 1 <= 1000000 by decide) (by decide) (fun t ht => by rw [List.mem_singleton.1 ht];exact ⟨Nat.zero_le _,Nat.zero_le _⟩) (by show (shownV 1 [e0]).length <= 1;rw [shown0];decide) (by show ∀ e ∈ shownV 1 [e0],_;rw [shown0];intro e he;rw [List.mem_singleton.1 he,starts0];decide));have r0 : w5.cell? ⟨R2,0,none⟩ = some (.int .i64 1):=HR5.out.cell 0;have r1 : w5.cell? ⟨R2,1,none⟩ = some (.int .i64 0):=HR5.out.cell 1;have r2 : w5.cell? ⟨R2,2,none⟩ = some (.slice pu2 1 cu2):=HR5.out.cell 2;go_wp2_with fail;refine HAG.out.mono ?_;rintro x w6 ⟨pa,ca,l,c,rfl,hl,hA,hb6⟩;rw [agenda0] at hl;simp only [Prod.mk.injEq] at hl;obtain ⟨rfl,rfl⟩:=hl;have HA6:=Lh (show RowA w5.heap.size w6 (.slice pa 1 ca) [⟨2820,45,e0.uid⟩] from hA);have HN6:=Lh (show RowN w1.heap.size w6 (.slice pn 1 cn) [⟨1,e0.uid,1⟩] from row_made HN5.out hb6);have HT6:=Lh (HT5.out.made hb6);have HR6:=Lh (HR5.out.below hb6 HR5.out.lt);have HL6:=Lh (HL.out.trans (HB3.out.mono HL.out.size |>.trans ((HB5.out.mono (Nat.le_trans HL.out.size hs3)).trans (hb6.mono (Nat.le_trans HL.out.size (Nat.le_trans hs3 HB5.out.size))))));clear hA hb6 r0 r1 r2 HAG;obtain ⟨ga,hpa,hca⟩ : ∃ g,pa = some ⟨g,0,none⟩ /\ w6.cell? ⟨g,0,none⟩ = some (.int .i64 2820):=by
  rcases (show w6.ownsRow w5.heap.size 57 3 (.slice pa 1 ca) 1 _ from HA6.out).2 with ⟨h1,h0⟩ | ⟨g,cap,cur,hv,_⟩
  ·cases h0
  ·simp only [Value.slice.injEq] at hv;have h:=World.ownsRow.cells (show w6.ownsRow w5.heap.size 57 3 (.slice pa 1 ca) 1 _ from HA6.out) (g:=g) (by rw [hv.1];rfl) 0 (.int .i64 2820) rfl;rw [Addr.add_lit] at h;exact ⟨g,hv.1,h⟩
 obtain ⟨gn,hpn,hcn⟩ : ∃ g,pn = some ⟨g,0,none⟩ /\ w6.cell? ⟨g,0,none⟩ = some (.int .i64 1):=by
  rcases (show w6.ownsRow w1.heap.size 99 3 (.slice pn 1 cn) 1 _ from HN6.out).2 with ⟨h1,h0⟩ | ⟨g,cap,cur,hv,_⟩
  ·cases h0
  ·simp only [Value.slice.injEq] at hv;have h:=World.ownsRow.cells (show w6.ownsRow w1.heap.size 99 3 (.slice pn 1 cn) 1 _ from HN6.out) (g:=g) (by rw [hv.1];rfl) 0 (.int .i64 1) rfl;rw [Addr.add_lit] at h;exact ⟨g,hv.1,h⟩
 subst hpa;subst hpn;have HSH : Hid (Calls Tryz.prog 64 #[.agg #[.int .i64 1,.int .i64 0,.slice pu2 1 cu2]] w6 fun x w' => ∃ (pu : Option Addr) (cu : Nat) (ts : List (Ev × Value × Value)),x = .returned (.slice pu ts.length cu) /\ ts.map (·.1) = shownV 1 [e0] /\ RowT w6.heap.size w' (.slice pu ts.length cu) ts /\ Below w6.heap.size w6 w'):=Lh (shown64 1 0 pu2 cu2 [(e0,a2,b2)] w6 HT6.out.seg1 (show 1 <= 1000000 by decide) (fun t ht => by rw [List.mem_singleton.1 ht];exact ⟨Nat.zero_le _,Nat.zero_le _⟩));have r0 : w6.cell? ⟨R2,0,none⟩ = some (.int .i64 1):=HR6.out.cell 0;have r1 : w6.cell? ⟨R2,1,none⟩ = some (.int .i64 0):=HR6.out.cell 1;have r2 : w6.cell? ⟨R2,2,none⟩ = some (.slice pu2 1 cu2):=HR6.out.cell 2;go_wp2_with fail;refine HSH.out.mono ?_;rintro x w7 ⟨pu7,cu7,us7,rfl,hus, -,hb7⟩;rw [shown0] at hus;obtain ⟨a7,b7,rfl⟩:=one_of hus;have hca7 : w7.cell? ⟨ga,0,none⟩ = some (.int .i64 2820):=(hb7.cell (p:=⟨ga,0,none⟩) (block_lt_of_cell hca)).trans hca;have HL7:=Lh (HL6.out.trans (hb7.mono HL6.out.size));clear hus hb7 hca hcn r0 r1 r2 HSH;go_wp2_with fail;go_ret;exact ⟨rfl,HL7.out⟩
end Go.Proofs.YtageielcdebjlaaGreatDoor
