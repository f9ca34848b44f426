/- subscriber.Shown: its contract: the events that are not cancelled, in new memory. Memory and plain facts for SubscriberOnce: a row of feeds in memory; drawn versions have no error; prefixes of a list of versions. Events in a map that the call makes, by their identifiers (map[string]api.Event), and a set of texts (map[string]bool). No function of the program in sight. Condition: none. feed.same: are two events equal but for their sequence? Events in a map, against ascending lists of events: plain facts on lists of events with their list values. No program in sight. -/
import Derived.Test.YtageielcdebjlaaGreatDoorPk6
import Derived.Test.YtageielcdebjlaaGreatDoorPk14
import Derived.Test.YtageielcdebjlaaGreatDoorPk13
import Derived.Test.YtageielcdebjlaaGreatDoorPk4
import Derived.Test.YtageielcdebjlaaGreatDoorPk8
import Derived.Maps.RangeWalk
import Derived.Test.YtageielcdebjlaaGreatDoorPk9
import Derived.RegionTactic
import Derived.ChangeAlike
import Derived.BigRegion
set_option maxRecDepth 100000
set_option maxHeartbeats 40000000
namespace Go.Proofs.YtageielcdebjlaaGreatDoor
open Go.RowKit
def shownV (rv : Int) (es : List Ev) : List Ev:=if rdOk rv es = true then es.filter (fun e => !e.canc) else []
theorem shown_take (es : List Ev) (k : Nat) (e : Ev) (h : es[k]? = some e) : (es.take (k + 1)).filter (fun e => !e.canc) = (es.take k).filter (fun e => !e.canc) ++ (if e.canc then [] else [e]):=by
 obtain ⟨h1,h2⟩:=List.getElem?_eq_some_iff.1 h;rw [List.take_succ_eq_append_getElem h1,List.filter_append,h2];cases hc : e.canc <;> simp [hc]
theorem shown64 (rv tag : Int) (ar : Option Addr) (cr : Nat) (rs : List (Ev × Value × Value)) (w : World) (hR : Seg w.heap.size w ar rs) (hrl : rs.length <= 1000000) (hsr : ∀ t ∈ rs,t.1.days.ex.length <= 1000000 /\ t.1.days.xt.length <= 1000000) :
  Calls Tryz.prog 64 #[.agg #[.int .i64 rv,.int .i64 tag,.slice ar rs.length cr]] w fun x w' => ∃ (pu : Option Addr) (cu : Nat) (ts : List (Ev × Value × Value)),x = .returned (.slice pu ts.length cu) /\ ts.map (·.1) = shownV rv (rs.map (·.1)) /\ RowT w.heap.size w' (.slice pu ts.length cu) ts /\ Below w.heap.size w w':=by
 obtain ⟨i0,hi,hz0,hz1,hz2⟩:=info_parts infoEv;obtain ⟨w0,hw0⟩ : ∃ w0,w0 = w.alloc (.cells #[.int .i64 rv,.int .i64 tag,.slice ar rs.length cr] 24):=⟨_,rfl⟩
 have HRB:=Lh (show Blk w.heap.size #[.int .i64 rv,.int .i64 tag,.slice ar rs.length cr] 24 w0 from by rw [hw0];exact Blk.new w _ _);have HL:=Lh (show Below w.heap.size w w0 from by rw [hw0];exact below_box w _);have hs0 : w.heap.size + 1 <= w0.heap.size:=by rw [hw0];simp
 have HR:=Lh hR;have HR0:=Lh hR;have HSR:=Lh hsr;obtain ⟨n,hn⟩ : ∃ n,n = rs.length:=⟨_,rfl⟩
 obtain ⟨es,hes⟩ : ∃ es,es = rs.map (·.1):=⟨_,rfl⟩
 have HLN:=Lh (show es.length = n from by simp [hn,hes]);have Hes:=Lh hes;have HV1 : Hid (∀ W,Below w.heap.size w0 W -> Calls Tryz.prog 24 #[.agg #[.int .i64 rv,.int .i64 tag,.slice ar n cr]] W fun e w' => e = .returned (.bool (rdOk rv es)) /\ Below W.heap.size W w'):=Lh (fun W hW => by
  have h:=valid24 rv tag es ar cr w.heap.size W (by have:=hW.size;omega) (by rw [Hes.out];exact (HR0.out.below (HL.out.trans (hW.mono (by omega)))).evs) (by rw [HLN.out];omega);rw [HLN.out] at h;exact h)
 rw [<- hes];rw [<- hn] at hw0 HRB hrl ⊢;have Hn:=Lh hn;clear hR hsr hn hes;have y0 : w0.cell? ⟨w.heap.size,0,none⟩ = some (.int .i64 rv):=HRB.out.cell 0;have y1 : w0.cell? ⟨w.heap.size,1,none⟩ = some (.int .i64 tag):=HRB.out.cell 1;have y2 : w0.cell? ⟨w.heap.size,2,none⟩ = some (.slice ar n cr):=HRB.out.cell 2;go_enter Tryz.func64,Tryz.ntmps64;go_upto_region 1 with (fail);rw [<- hw0];clear hw0;go_wp2_with fail;refine (HV1.out _ (Below.refl _ _)).mono ?_;rintro e w1 ⟨rfl,hb1⟩;have HRB1:=Lh (hb1.block w.heap.size HRB.out.lt |>.trans HRB.out);have HL1:=Lh (HL.out.trans (hb1.mono (by omega)));clear hb1 y0 y1 y2 HL;by_cases hok : rdOk rv es = true
 ·have hnk : (!rdOk rv es) = false:=by rw [hok];rfl
  have HOK:=Lh hok;have y2 : w1.cell? ⟨w.heap.size,2,none⟩ = some (.slice ar n cr):=Blk.cell (show Blk w.heap.size _ 24 w1 from HRB1.out) 2;go_wp2_with fail;clear y2;go_loopw [3,12] (fun s3 iv wr => ∃ (k : Nat) (pu : Option Addr) (cu : Nat) (ts : List (Ev × Value × Value)),s3 = .slice pu ts.length cu /\ iv = .int .i64 k /\ k <= n /\ Hid (RowT w.heap.size wr (.slice pu ts.length cu) ts) /\ Hid (ts.map (·.1) = (es.take k).filter (fun e => !e.canc)) /\ Hid (Below w.heap.size w wr)) (fun _ iv _ => n - (intOf iv).toNat)
  case atStart => exact ⟨0,none,0,[],rfl,rfl,Nat.zero_le _,Lh (RowT.nil _ _),Lh rfl,HL1⟩
  case round =>
   clear HL1 HRB1;obtain ⟨k,pu,cu,ts,rfl,rfl,hk,HT,HM,HL⟩:=hrel;have hNr : w.heap.size <= wr.heap.size:=HL.out.size;have HTL:=Lh (show ts.length <= n from by have h:=congrArg List.length HM.out;rw [List.length_map] at h;have h2:=List.length_filter_le (fun e : Ev => !e.canc) (es.take k);rw [List.length_take] at h2;omega);by_cases hlt : k < n
   ·have hlti : (k : Int) < n:=by omega
    obtain ⟨t,ht⟩ : ∃ t,rs[k]? = some t:=⟨_,List.getElem?_eq_getElem (by rw [<- Hn.out];exact hlt)⟩
    obtain ⟨e,va,vb⟩:=t;obtain ⟨bf,of,haf,hbf,hcf⟩ : ∃ b o,ar = some ⟨b,o,none⟩ /\ b < w.heap.size /\ ∀ (j : Nat) (u : Value),(tCells rs)[j]? = some u -> w.cell? ⟨b,o + j,none⟩ = some u:=by
     rcases HR.out.at' with h | h
     ·rw [h] at ht;simp at ht
     ·exact h
    subst haf;have hev:=(seg_c hcf k _ ht).below hbf HL.out;have HRE0:=HR.out.ref _ (List.mem_of_getElem? ht);obtain ⟨hEB,⟨pe,ke,hva,hia⟩,⟨pf,kf,hvb,hib⟩⟩:=id HRE0;simp only at hva hvb hia hib;subst hva;subst hvb;have HEB:=Lh hEB;have HLE:=Lh (HSR.out _ (List.mem_of_getElem? ht));have HFK:=Lh (show es[k]? = some e from by rw [Hes.out,List.getElem?_map,ht];rfl);obtain ⟨c0,c1,c2,c3,c4,c5,c6,c7,c8,c9,c10,c11,c12⟩:=hev;simp only at c0 c1 c2 c3 c4 c5 c6 c7 c8 c9 c10 c11 c12;obtain ⟨X,hX⟩ : ∃ X,X = wr.alloc (.cells #[.string e.uid,.int .i64 e.seq,.bool e.canc,.int .i64 e.days.first,.int .i64 e.days.last,.int .i64 e.days.every,.int .i64 e.days.wd,.slice pe e.days.ex.length ke,.slice pf e.days.xt.length kf,.int .i64 e.start,.int .i64 e.mins,.string e.summ,.string e.loc] 82):=⟨_,rfl⟩
    have HXE:=Lh (show Blk wr.heap.size (evCells e (.slice pe e.days.ex.length ke) (.slice pf e.days.xt.length kf)) 82 X from by rw [hX];exact Blk.new wr _ _);have HX:=Lh (show Below wr.heap.size wr X from by rw [hX];exact below_box wr _);have hXs : X.heap.size = wr.heap.size + 1:=by rw [hX];simp
    have hNX : w.heap.size <= X.heap.size:=by omega
    have HLX:=Lh (HL.out.trans (HX.out.mono hNr));have HTX:=Lh (HT.out.made HX.out);have HTW:=Lh (show Calls Tryz.prog 80 #[.agg #[.string e.uid,.int .i64 e.seq,.bool e.canc,.int .i64 e.days.first,.int .i64 e.days.last,.int .i64 e.days.every,.int .i64 e.days.wd,.slice pe e.days.ex.length ke,.slice pf e.days.xt.length kf,.int .i64 e.start,.int .i64 e.mins,.string e.summ,.string e.loc]] X (Twin e X) from twin80 e pe pf ke kf X ((hia.below HLX.out).mono hNX) ((hib.below HLX.out).mono hNX) HLE.out.1 HLE.out.2);clear hEB hia hib HRE0 ht hcf hXs;go_upto_region 7 with (fail);rw [<- hX];clear hX HT HL c0 c1 c2 c3 c4 c5 c6 c7 c8 c9 c10 c11 c12;have y0 : X.cell? ⟨wr.heap.size,0,none⟩ = some (.string e.uid):=HXE.out.cell 0;have y1 : X.cell? ⟨wr.heap.size,1,none⟩ = some (.int .i64 e.seq):=HXE.out.cell 1;have y2 : X.cell? ⟨wr.heap.size,2,none⟩ = some (.bool e.canc):=HXE.out.cell 2;have y3 : X.cell? ⟨wr.heap.size,3,none⟩ = some (.int .i64 e.days.first):=HXE.out.cell 3;have y4 : X.cell? ⟨wr.heap.size,4,none⟩ = some (.int .i64 e.days.last):=HXE.out.cell 4;have y5 : X.cell? ⟨wr.heap.size,5,none⟩ = some (.int .i64 e.days.every):=HXE.out.cell 5;have y6 : X.cell? ⟨wr.heap.size,6,none⟩ = some (.int .i64 e.days.wd):=HXE.out.cell 6;have y7 : X.cell? ⟨wr.heap.size,7,none⟩ = some (.slice pe e.days.ex.length ke):=HXE.out.cell 7;have y8 : X.cell? ⟨wr.heap.size,8,none⟩ = some (.slice pf e.days.xt.length kf):=HXE.out.cell 8;have y9 : X.cell? ⟨wr.heap.size,9,none⟩ = some (.int .i64 e.start):=HXE.out.cell 9;have y10 : X.cell? ⟨wr.heap.size,10,none⟩ = some (.int .i64 e.mins):=HXE.out.cell 10;have y11 : X.cell? ⟨wr.heap.size,11,none⟩ = some (.string e.summ):=HXE.out.cell 11;have y12 : X.cell? ⟨wr.heap.size,12,none⟩ = some (.string e.loc):=HXE.out.cell 12;obtain ⟨B,hB⟩ : ∃ B,B = e.canc:=⟨_,rfl⟩
    have HB:=Lh hB;rw [<- hB] at y2 HTW;clear hB;cases B
    ·have hcn:=HB.out.symm;have HF : Hid (∀ (a b : Value),(ts ++ [((e,a,b) : Ev × Value × Value)]).map (·.1) = (es.take (k + 1)).filter (fun e => !e.canc)):=Lh (fun a b => by rw [shown_take es k e HFK.out,List.map_append,HM.out,hcn];rfl);clear hcn;have hA1 : ts.length + 1 <= maxLen:=by have:=HTL.out;unfold maxLen;omega
     have hA2 : (ts.length + 1) * 160 <= 140737488355328:=by have:=HTL.out;omega
     go_wp2_with fail;refine HTW.out.mono ?_;rintro y X1 ⟨q,d,q2,d2,rfl,hX1,hY1,hb1⟩;have HT1:=Lh ((HTX.out.made hb1).alloc (.cells (evCells e (Value.slice q e.days.ex.length d) (Value.slice q2 e.days.xt.length d2)) 82));have HL1:=Lh ((HLX.out.trans (hb1.mono hNX)).alloc (Nat.le_trans hNX hb1.size) (.cells (evCells e (Value.slice q e.days.ex.length d) (Value.slice q2 e.days.xt.length d2)) 82));have HRf:=Lh (show RefT w.heap.size _ (e,(Value.slice q e.days.ex.length d),(Value.slice q2 e.days.xt.length d2)) from (show RefT w.heap.size X1 (e,(Value.slice q e.days.ex.length d),(Value.slice q2 e.days.xt.length d2)) from ⟨HEB.out,ownsRow_mono hX1 hNX,ownsRow_mono hY1 hNX⟩).alloc (.cells (evCells e (Value.slice q e.days.ex.length d) (Value.slice q2 e.days.xt.length d2)) 82));have HNB:=Lh (Blk.new X1 (evCells e (Value.slice q e.days.ex.length d) (Value.slice q2 e.days.xt.length d2)) 82);clear hX1 hY1 hb1 y0 y1 y2 y3 y4 y5 y6 y7 y8 y9 y10 y11 y12;unfold evVal evCells;go_wp2_with (at_builtin;refine wpList_append_own_at _ rfl (.tmp 19) (.tmp 22) 22 rfl w.heap.size 82 i0 _ 13 160 Tryz.underlying22 hi hz0 hz1 hz2 rfl (by decide) _ _ _ rfl HT1.out.row ⟨X1.heap.size,0,none⟩ 1 1 _ rfl rfl (blk_cells HNB.out) (evCells_one _ _ _ _ _ _ _) hA1 hA2 HL1.out.size ?_);intro v' x8 hown8 hgrow _ _;obtain ⟨p8,q8,hv8⟩:=ownsRow_len hown8;subst hv8;have HT8:=Lh (HT1.out.snoc HRf.out hgrow hown8);have HL8:=Lh (below_grownBy HL1.out HT1.out.row (Nat.le_refl _) HL1.out.size hgrow);have HT9:=Lh (show RowT w.heap.size x8 (.slice p8 (ts ++ [(e,(Value.slice q e.days.ex.length d),(Value.slice q2 e.days.xt.length d2))]).length q8) (ts ++ [(e,(Value.slice q e.days.ex.length d),(Value.slice q2 e.days.xt.length d2))]) from by rw [List.length_append];exact HT8.out);clear hgrow hown8 HT1 HL1 HNB HT8 HRf;go_wp2_with fail;go_roundw
     case rel => exact ⟨k + 1,p8,q8,ts ++ [(e,(Value.slice q e.days.ex.length d),(Value.slice q2 e.days.xt.length d2))],by simp,by go_num,by omega,HT9,Lh (HF.out _ _),HL8⟩
     case measure => simp [intOf];omega
    ·have hcn:=HB.out.symm;have HF:=Lh (show ts.map (·.1) = (es.take (k + 1)).filter (fun e => !e.canc) from by rw [shown_take es k e HFK.out,HM.out,hcn];simp);clear hcn;go_wp2_with fail;go_roundw
     case rel => exact ⟨k + 1,pu,cu,ts,rfl,by go_num,by omega,HTX,HF,HLX⟩
     case measure => simp [intOf];omega
   ·have hlti : ¬ (k : Int) < n:=by omega
    have hkn : k = n:=by omega
    have HSV:=Lh (show ts.map (·.1) = shownV rv es from by unfold shownV;rw [if_pos HOK.out,HM.out,hkn,<- HLN.out,List.take_length]);clear hkn;go_wp2_with fail;go_ret;exact ⟨pu,cu,ts,rfl,HSV.out,HT.out,HL.out⟩
 ·have hok : rdOk rv es = false:=by simpa using hok
  have hnk : (!rdOk rv es) = true:=by rw [hok];rfl
  have HSV:=Lh (show ([] : List Ev) = shownV rv es from by unfold shownV;rw [if_neg (by rw [hok];simp)]);go_wp2_with fail;go_ret;exact ⟨none,0,[],rfl,HSV.out,RowT.nil _ _,HL1.out⟩
theorem RowT.apart {lo B n k : Nat} {ty : TypeId} {w w' : World} {u v : Value} {ts : List (Ev × Value × Value)} {xs : List Value} (h : RowT lo w u ts) (hown : w.ownsRow B ty k v n xs) (h3 : 3 ≠ ty) (h82 : 82 ≠ ty) (hg : w.grownBy w' v.ownBlock) : RowT lo w' u ts :=
 ⟨World.ownsRow.kept h.row hg (row_apart_ty h.row hown h82),fun t ht => ⟨(h.ref t ht).1,World.ownsRow.kept (h.ref t ht).2.1 hg (row_apart_ty (h.ref t ht).2.1 hown h3),World.ownsRow.kept (h.ref t ht).2.2 hg (row_apart_ty (h.ref t ht).2.2 hown h3)⟩⟩
abbrev Fd:=Int × Value × List (Ev × Value × Value)
def fdCells (nm : ByteArray) (fs : List Fd) : List Value:=fs.flatMap fun f => [.string nm,.int .i64 f.1,f.2.1]
theorem fdCells_get (nm : ByteArray) : ∀ (fs : List Fd) (j i : Nat) (f : Fd),fs[j]? = some f -> i < 3 -> (fdCells nm fs)[j * 3 + i]? = [Value.string nm,.int .i64 f.1,f.2.1][i]?
 | [],_,_,_,h,_ => by simp at h
 | n0 :: r,0,i,n,h,hi => by
  simp at h;subst h;show ([Value.string nm,.int .i64 n0.1,n0.2.1] ++ fdCells nm r)[0 * 3 + i]? = _
  rw [show 0 * 3 + i = i by omega,List.getElem?_append_left (by show i < 3;exact hi)]
 | n0 :: r,j + 1,i,n,h,hi => by
  show ([Value.string nm,.int .i64 n0.1,n0.2.1] ++ fdCells nm r)[(j + 1) * 3 + i]? = _
  rw [List.getElem?_append_right (by show 3 <= _;omega),show (j + 1) * 3 + i - [Value.string nm,.int .i64 n0.1,n0.2.1].length = j * 3 + i by show _ - 3 = _;omega];exact fdCells_get nm r j i n (by simpa using h) hi
theorem fdCells_snoc (nm : ByteArray) (fs : List Fd) (f : Fd) : fdCells nm (fs ++ [f]) = fdCells nm fs ++ [.string nm,.int .i64 f.1,f.2.1]:=by
 unfold fdCells;simp
structure RowFd (lo : Nat) (w : World) (v : Value) (nm : ByteArray) (fs : List Fd) : Prop where
 row : w.ownsRow lo 26 3 v fs.length (fdCells nm fs)
 each : ∀ f ∈ fs,RowT lo w f.2.1 f.2.2
theorem RowFd.nil (lo : Nat) (w : World) (nm : ByteArray) : RowFd lo w (.slice none 0 0) nm []:=⟨World.ownsRow_nil _ _ _ _,fun f h => by cases h⟩
theorem RowFd.alloc {lo : Nat} {w : World} {v : Value} {nm : ByteArray} {fs : List Fd} (h : RowFd lo w v nm fs) (o : Obj) : RowFd lo (w.alloc o) v nm fs:=⟨h.row.alloc o,fun f hf => (h.each f hf).alloc o⟩
theorem RowFd.made {lo : Nat} {w w' : World} {v : Value} {nm : ByteArray} {fs : List Fd} (h : RowFd lo w v nm fs) (hb : Below w.heap.size w w') : RowFd lo w' v nm fs:=⟨row_made h.row hb,fun f hf => (h.each f hf).made hb⟩
theorem RowFd.snoc {lo : Nat} {w w' : World} {v v' : Value} {nm : ByteArray} {fs : List Fd} {f : Fd} (h : RowFd lo w v nm fs) (hf : RowT lo w f.2.1 f.2.2) (hg : w.grownBy w' v.ownBlock) (hown : w'.ownsRow lo 26 3 v' (fs.length + 1) (fdCells nm fs ++ [.string nm,.int .i64 f.1,f.2.1])) : RowFd lo w' v' nm (fs ++ [f]):=by
 refine ⟨by rw [List.length_append,fdCells_snoc];exact hown,fun q hq => ?_⟩;rcases List.mem_append.1 hq with hq | hq
 ·exact (h.each q hq).apart h.row (by decide) (by decide) hg
 ·rw [List.mem_singleton.1 hq];exact hf.apart h.row (by decide) (by decide) hg
theorem RowFd.form {lo : Nat} {w : World} {v : Value} {nm : ByteArray} {fs : List Fd} (h : RowFd lo w v nm fs) (hp : 0 < fs.length) : ∃ g c,v = .slice (some ⟨g,0,none⟩) fs.length c /\ g < w.heap.size /\ lo <= g:=by
 rcases h.row.2 with ⟨_,h0⟩ | ⟨g,cap,cur,hv,hb,hg,_⟩
 ·omega
 ·exact ⟨g,cap,hv,(Array.getElem?_eq_some_iff.1 hg).1,hb⟩
theorem RowFd.at_ {lo n c g : Nat} {w : World} {nm : ByteArray} {fs : List Fd} (h : RowFd lo w (.slice (some ⟨g,0,none⟩) n c) nm fs) {j : Nat} {f : Fd} (hf : fs[j]? = some f) : w.cell? ⟨g,j * 3,none⟩ = some (.string nm) /\ w.cell? ⟨g,j * 3 + 1,none⟩ = some (.int .i64 f.1) /\ w.cell? ⟨g,j * 3 + 2,none⟩ = some f.2.1:=by
 have hc : ∀ (i : Nat) (u : Value),i < 3 -> [Value.string nm,.int .i64 f.1,f.2.1][i]? = some u -> w.cell? ⟨g,j * 3 + i,none⟩ = some u:=fun i u hi hu => by
  have:=World.ownsRow.cells h.row (g:=g) rfl (j * 3 + i) u (by rw [fdCells_get nm fs j i f hf hi];exact hu);rw [Addr.add_lit] at this;rw [<- this,Nat.zero_add]
 exact ⟨hc 0 _ (by omega) rfl,hc 1 _ (by omega) rfl,hc 2 _ (by omega) rfl⟩
theorem infoFd : (Tryz.prog.info? 26).map (fun i => (i.zero,i.size,i.bytes)) = some (some (.agg #[.string ⟨#[]⟩,.int .i64 0,.slice none 0 0]),3,48):=by kernel_rfl
structure Feeds (lo : Nat) (w : World) (v : Value) (nm : ByteArray) (g : Tt.Grd) (t : Tt.Trm) (ls : List (List Ses)) (fs : List Fd) : Prop where
 row : RowFd lo w v nm fs
 ver : ∀ (j : Nat) (f : Fd),fs[j]? = some f -> f.1 = (j : Int) /\ f.2.2.map (·.1) = makK g t ls j
theorem Feeds.alloc {lo : Nat} {w : World} {v : Value} {nm : ByteArray} {g : Tt.Grd} {t : Tt.Trm} {ls : List (List Ses)} {fs : List Fd} (h : Feeds lo w v nm g t ls fs) (o : Obj) : Feeds lo (w.alloc o) v nm g t ls fs:=⟨h.row.alloc o,h.ver⟩
theorem Feeds.made {lo : Nat} {w w' : World} {v : Value} {nm : ByteArray} {g : Tt.Grd} {t : Tt.Trm} {ls : List (List Ses)} {fs : List Fd} (h : Feeds lo w v nm g t ls fs) (hb : Below w.heap.size w w') : Feeds lo w' v nm g t ls fs:=⟨h.row.made hb,h.ver⟩
theorem Feeds.snoc {lo : Nat} {w w' : World} {v v' : Value} {nm : ByteArray} {g : Tt.Grd} {t : Tt.Trm} {ls : List (List Ses)} {fs : List Fd} {u : Value} {ts : List (Ev × Value × Value)} (h : Feeds lo w v nm g t ls fs) (hf : RowT lo w u ts) (he : ts.map (·.1) = makK g t ls fs.length) (hg : w.grownBy w' v.ownBlock) (hown : w'.ownsRow lo 26 3 v' (fs.length + 1) (fdCells nm fs ++ [.string nm,.int .i64 (fs.length : Int),u])) : Feeds lo w' v' nm g t ls (fs ++ [((fs.length : Int),u,ts)]):=by
 refine ⟨h.row.snoc (f:=((fs.length : Int),u,ts)) hf hg hown,fun j f hj => ?_⟩;rcases Nat.lt_or_ge j fs.length with hl | hl
 ·rw [List.getElem?_append_left hl] at hj;exact h.ver j f hj
 ·rw [List.getElem?_append_right hl] at hj;have hj0 : j - fs.length = 0:=by
   rcases Nat.eq_zero_or_pos (j - fs.length) with q | q
   ·exact q
   ·rw [List.getElem?_eq_none (by simp;omega)] at hj;cases hj
  rw [hj0] at hj;simp at hj;subst hj;obtain rfl : j = fs.length:=by omega
  exact ⟨rfl,he⟩
theorem Feeds.get {lo n c g0 j : Nat} {w : World} {nm : ByteArray} {g : Tt.Grd} {t : Tt.Trm} {ls : List (List Ses)} {fs : List Fd} (h : Feeds lo w (.slice (some ⟨g0,0,none⟩) n c) nm g t ls fs) (hj : j < fs.length) :
  ∃ (p : Option Addr) (q : Nat) (ts : List (Ev × Value × Value)),w.cell? ⟨g0,j * 3,none⟩ = some (.string nm) /\ w.cell? ⟨g0,j * 3 + 1,none⟩ = some (.int .i64 (j : Int)) /\ w.cell? ⟨g0,j * 3 + 2,none⟩ = some (.slice p ts.length q) /\ RowT lo w (.slice p ts.length q) ts /\ ts.map (·.1) = makK g t ls j:=by
 have hf : fs[j]? = some fs[j]:=List.getElem?_eq_getElem hj;obtain ⟨f,hfe⟩ : ∃ f,f = fs[j]:=⟨_,rfl⟩
 rw [<- hfe] at hf;obtain ⟨v1,v2⟩:=h.ver j f hf;obtain ⟨c0,c1,c2⟩:=h.row.at_ hf;have hr:=h.row.each f (List.mem_of_getElem? hf);obtain ⟨p,q,hq, -, -⟩:=hr.seg;rw [hq] at c2 hr;rw [v1] at c1;exact ⟨p,q,f.2.2,c0,c1,c2,hr,v2⟩
theorem ses_ok {g : Tt.Grd} {n : Int} {s : Ses} (h : SesOk g n s) (hg : Tt.gridV g = 0) (hn0 : 1 <= n) (hn1 : n <= 20) : sesE s n = 0:=by
 obtain ⟨⟨c,hc,c0,c1⟩,ht,hr⟩:=h;have hf:=ht.fits hg hn0 hn1;unfold Tt.fitsV at hf;rw [if_pos ⟨hg,hn0,hn1⟩] at hf;have hs : Tt.soundB s.tim = true /\ Tt.weeksB s.tim.weeks n = true:=by
  split at hf
  ·rename_i q;exact ⟨q.1,q.2.1⟩
  ·cases hf
 refine sesE_ok ?_ (by rw [hs.1,hs.2];rfl) ?_
 ·rw [hc];have hcc : c = 49 ∨ c = 50 ∨ c = 51 ∨ c = 52:=by
   have : c.toNat = 49 ∨ c.toNat = 50 ∨ c.toNat = 51 ∨ c.toNat = 52:=by omega
   rcases this with q | q | q | q
   ·exact .inl (UInt8.toNat_inj.1 q)
   ·exact .inr (.inl (UInt8.toNat_inj.1 q))
   ·exact .inr (.inr (.inl (UInt8.toNat_inj.1 q)))
   ·exact .inr (.inr (.inr (UInt8.toNat_inj.1 q)))
  rcases hcc with rfl | rfl | rfl | rfl <;> decide
 ·rcases hr with h | h | h <;> rw [h] <;> decide
theorem sesL_zero {n : Int} : ∀ {l : List Ses},(∀ s ∈ l,sesE s n = 0) -> sesL n l = 0
 | [],_ => rfl
 | s :: r,h => by
  rw [sesL,if_neg (by rw [h s (by simp)];decide)];exact sesL_zero (fun x hx => h x (by simp [hx]))
theorem ordB_true : ∀ {l : List Ses},l.Pairwise (fun a b => lessU a.cls b.cls = true) -> ordB l = true
 | [],_ => rfl
 | [_],_ => rfl
 | a :: b :: r,h => by
  obtain ⟨h1,h2⟩:=List.pairwise_cons.1 h;rw [ordB,ordB_true h2,Bool.and_true];unfold befB;rw [h1 b (by simp)];rfl
theorem dupB_false : ∀ {l pre : List Ses},(pre ++ l).Pairwise (fun a b => lessU a.cls b.cls = true) -> dupB pre l = false
 | [],_,_ => by unfold dupB;rfl
 | s :: r,pre,h => by
  have hh : (pre ++ [s]) ++ r = pre ++ s :: r:=by simp
  rw [dupB,dupB_false (by rw [hh];exact h),Bool.or_false];rw [List.any_eq_false];intro x hx;have hl:=(List.pairwise_append.1 h).2.2 x hx s (by simp);have hne : decide (s.cls = x.cls) = false:=by
   rw [decide_eq_false_iff_not];intro q;rw [q,lessU_irrefl] at hl;cases hl
  unfold twiceB meetB likeB;rw [hne];simp
theorem ver_chg {g : Tt.Grd} {n : Int} {l : List Ses} (h : VerOk g n l) (hg : Tt.gridV g = 0) (hn0 : 1 <= n) (hn1 : n <= 20) (hl : l.length <= 12) : chgV l n = 0:=by
 unfold chgV;rw [if_neg (by omega),if_neg (by omega),if_neg (by rw [sesL_zero (fun s hs => ses_ok (h.each s hs) hg hn0 hn1)];decide),if_neg (by rw [ordB_true h.asc];decide),if_neg (by rw [dupB_false (pre:=[]) (by simpa using h.asc)];decide)]
theorem chgsV_zero {n : Int} : ∀ {ls : List (List Ses)},(∀ l ∈ ls,chgV l n = 0) -> chgsV n ls = 0
 | [],_ => rfl
 | l :: r,h => by
  rw [chgsV,if_neg (by rw [h l (by simp)];decide)];exact chgsV_zero (fun x hx => h x (by simp [hx]))
theorem advS_len {k : Int} {es : List Ev} {e : Ev} : (advS k es e).length <= es.length + 1:=by
 unfold advS;split
 ·split
  ·omega
  ·exact putE_len e es
 ·exact putE_len e es
theorem foldS_len {k : Int} : ∀ {fs es : List Ev},(fs.foldl (advS k) es).length <= es.length + fs.length
 | [],_ => Nat.le_refl _
 | e :: r,es => by
  have h1:=foldS_len (k:=k) (fs:=r) (es:=advS k es e);have h2:=advS_len (k:=k) (es:=es) (e:=e);rw [List.foldl_cons,List.length_cons];omega
theorem advV_len {g : Tt.Grd} {t : Tt.Trm} {k : Int} {l : List Ses} {es : List Ev} : (advV g t k l es).length <= es.length + l.length:=by
 unfold advV advC;rw [List.length_map];have h1:=foldS_len (k:=k) (fs:=sesEs g t k l) (es:=es);have h2 : (sesEs g t k l).length <= l.length:=by unfold sesEs;rw [List.length_map];exact List.length_filter_le _ _
 omega
theorem makE_len {g : Tt.Grd} {t : Tt.Trm} {b : Nat} : ∀ {ls : List (List Ses)} {k : Int} {es : List Ev},(∀ l ∈ ls,l.length <= b) -> (makeE g t k ls es).length <= es.length + ls.length * b
 | [],_,es,_ => by rw [makeE];simp
 | l :: r,k,es,h => by
  rw [makeE];have h1:=makE_len (g:=g) (t:=t) (b:=b) (ls:=r) (k:=k + 1) (es:=advV g t k l es) (fun x hx => h x (by simp [hx]));have h2:=advV_len (g:=g) (t:=t) (k:=k) (l:=l) (es:=es);have h3:=h l (by simp);rw [List.length_cons,Nat.succ_mul];omega
structure VersOk (g : Tt.Grd) (t : Tt.Trm) (ls : List (List Ses)) : Prop where
 grid : Tt.gridV g = 0
 term : Tt.trmV t = 0
 len : ls.length <= 4
 each : ∀ l ∈ ls,l.length <= 12 /\ VerOk g t.weeks l
theorem VersOk.code {g : Tt.Grd} {t : Tt.Trm} {ls : List (List Ses)} (h : VersOk g t ls) (k : Nat) : makC g t ⟨#[120]⟩ (ls.take k) = 0:=by
 have hw:=Tt.trmV_ok h.term;have hle : (ls.take k).length <= 4:=by rw [List.length_take];have:=h.len;omega
 refine makC_0 h.grid h.term (by decide) (by omega) (chgsV_zero (fun l hl => ?_)) ?_
 ·have hm:=h.each l (List.mem_of_mem_take hl);exact ver_chg hm.2 h.grid hw.2.2.1 hw.2.2.2.1 hm.1
 ·have:=makE_len (g:=g) (t:=t) (b:=12) (ls:=ls.take k) (k:=1) (es:=[]) (fun l hl => (h.each l (List.mem_of_mem_take hl)).1);have h2 : (ls.take k).length * 12 <= 4 * 12:=Nat.mul_le_mul_right _ hle;rw [List.length_nil] at this;omega
theorem VersOk.small {g : Tt.Grd} {t : Tt.Trm} {ls : List (List Ses)} (h : VersOk g t ls) (k : Nat) : (makK g t ls k).length <= 48:=by
 have hle : (ls.take k).length <= 4:=by rw [List.length_take];have:=h.len;omega
 have:=makE_len (g:=g) (t:=t) (b:=12) (ls:=ls.take k) (k:=1) (es:=[]) (fun l hl => (h.each l (List.mem_of_mem_take hl)).1);have h2 : (ls.take k).length * 12 <= 4 * 12:=Nat.mul_le_mul_right _ hle;rw [List.length_nil] at this;unfold makK;omega
theorem VersOk.feed {g : Tt.Grd} {t : Tt.Trm} {ls : List (List Ses)} (h : VersOk g t ls) {k : Nat} (hk : k <= ls.length) : makF g t ⟨#[120]⟩ (ls.take k) = (⟨#[120]⟩,(k : Int),makK g t ls k):=by
 unfold makF;rw [if_pos (h.code k),List.length_take,Nat.min_eq_left hk];rfl
theorem VersOk.valid {g : Tt.Grd} {t : Tt.Trm} {ls : List (List Ses)} (h : VersOk g t ls) {k : Nat} (hk : k <= ls.length) : feedV ⟨#[120]⟩ (k : Int) (makK g t ls k) = 0:=by
 have:=makF_valid (h.code k);rwa [h.feed hk] at this
theorem VersOk.rd {g : Tt.Grd} {t : Tt.Trm} {ls : List (List Ses)} (h : VersOk g t ls) {k : Nat} (hk : k <= ls.length) : rdOk (k : Int) (makK g t ls k) = true :=
 (rdOk_iff _ _).2 ⟨by omega,by have:=h.len;omega,by have:=h.small k;omega,makK_valid g t ls k hk⟩
theorem VersOk.lists {g : Tt.Grd} {t : Tt.Trm} {ls : List (List Ses)} (h : VersOk g t ls) {k : Nat} (hk : k <= ls.length) {ts : List (Ev × Value × Value)} (he : ts.map (·.1) = makK g t ls k) : ts.length <= 48 /\ ∀ q ∈ ts,q.1.days.ex.length <= 1000000 /\ q.1.days.xt.length <= 1000000:=by
 refine ⟨by have:=h.small k;rw [<- he,List.length_map] at this;exact this,fun q hq => rd_lists (h.rd hk) q.1 ?_⟩;rw [<- he];exact List.mem_map.2 ⟨q,hq,rfl⟩
theorem RowT.sg {lo n c : Nat} {w : World} {p : Option Addr} {ts : List (Ev × Value × Value)} (h : RowT lo w (.slice p n c) ts) : Seg w.heap.size w p ts:=by
 obtain ⟨qa,qc,hq, -,hs⟩:=h.seg;simp only [Value.slice.injEq] at hq;rw [hq.1];exact hs
def newN (g : Tt.Grd) (t : Tt.Trm) (ls : List (List Ses)) (k j : Nat) : List Nt:=if k < j then (makK g t ls j).flatMap (noteE (makK g t ls k)) else []
theorem VersOk.merge {g : Tt.Grd} {t : Tt.Trm} {ls : List (List Ses)} (h : VersOk g t ls) {k j : Nat} (hk : k <= ls.length) (hj : j <= ls.length) : mergeV (k : Int) 0 (makK g t ls k) ⟨#[120]⟩ (j : Int) (makK g t ls j) = (((max k j : Nat) : Int),0,makK g t ls (max k j),newN g t ls k j,0) :=
 merge_ver hk hj (by have:=h.len;omega) (by have:=h.small k;omega) (by have:=h.small j;omega) (h.valid hj)
theorem newN_len {g : Tt.Grd} {t : Tt.Trm} {ls : List (List Ses)} (h : VersOk g t ls) (k j : Nat) : (newN g t ls k j).length <= 48:=by
 unfold newN;split
 ·have hn : ∀ es : List Ev,∀ fs : List Ev,(fs.flatMap (noteE es)).length <= fs.length:=by
   intro es fs;induction fs with
   | nil => exact Nat.le_refl _
   | cons e r ih =>
    rw [List.flatMap_cons,List.length_append,List.length_cons];have : (noteE es e).length <= 1:=by
     have hN : ∀ c,(noteN c e []).length <= 1:=fun c => by unfold noteN;split <;> simp
     unfold noteE;split
     ·exact hN _
     ·split
      ·exact hN _
      ·simp
    omega
  have:=hn (makK g t ls k) (makK g t ls j);have h2:=h.small j;omega
 ·simp
theorem RowT.box {lo : Nat} {w : World} {v : Value} {ts : List (Ev × Value × Value)} {o : Obj} (h : RowT lo w v ts) : RowT lo (w.alloc o) v ts:=h.alloc o
theorem LstAt.take {B : Nat} {w : World} {ao : Option Addr} {ls : List (List Ses)} (h : LstAt B w ao ls) (k : Nat) : LstAt B w ao (ls.take k):=by
 rcases h with h | ⟨b,o,h1,h2,h3⟩
 ·exact .inl (by rw [h];exact List.take_nil)
 ·refine .inr ⟨b,o,h1,h2,fun j l hl => h3 j l ?_⟩;have hj : j < k:=by have:=(List.getElem?_eq_some_iff.1 hl).1;rw [List.length_take] at this;omega
  rwa [List.getElem?_take_of_lt hj] at hl
theorem nCells_one (ns : List Nt) : ∀ u ∈ nCells ns,u.oneCell' = true:=by
 intro u hu;obtain ⟨n, -,hn⟩:=List.mem_flatMap.1 hu;simp only [List.mem_cons,List.not_mem_nil,or_false] at hn;rcases hn with rfl | rfl | rfl <;> rfl
theorem nCells_app (xs ys : List Nt) : nCells (xs ++ ys) = nCells xs ++ nCells ys:=by unfold nCells;rw [List.flatMap_append]
theorem RowN.app {lo n m : Nat} {w : World} {v : Value} {xs ys : List Nt} (h : w.ownsRow lo 99 3 v (n + m) (nCells xs ++ nCells ys)) (hn : n = xs.length) (hm : m = ys.length) : RowN lo w v (xs ++ ys):=by
 unfold RowN;rw [nCells_app,List.length_append,<- hn,<- hm];exact h
theorem RowN.set {lo : Nat} {w : World} {v : Value} {ns : List Nt} (h : RowN lo w v ns) {g : Nat} {cs : Array Value} {ty : TypeId} (hg : Blk g cs ty w) (hte : ty ≠ 99) (i : Nat) (u : Value) : RowN lo (w.setCell ⟨g,i,none⟩ u) v ns:=row_set h hg hte i u
theorem VersOk.shown {g : Tt.Grd} {t : Tt.Trm} {ls : List (List Ses)} (h : VersOk g t ls) {k : Nat} (hk : k <= ls.length) {T : List Nt} (hT : Told (makK g t ls) k T) {ts : List (Ev × Value × Value)} (hs : ts.map (·.1) = shownV (k : Int) (makK g t ls k)) : ascV (tellV [] T) = ts.map (fun q => q.1.uid):=by
 rw [told_shown hT];unfold shownV at hs;rw [if_pos (h.rd hk)] at hs;rw [<- hs,List.map_map];rfl
theorem VersOk.few {g : Tt.Grd} {t : Tt.Trm} {ls : List (List Ses)} (h : VersOk g t ls) {k : Nat} {ts : List (Ev × Value × Value)} (hs : ts.map (·.1) = shownV (k : Int) (makK g t ls k)) : ts.length <= 48:=by
 have h1 : ts.length = (shownV (k : Int) (makK g t ls k)).length:=by rw [<- hs,List.length_map]
 rw [h1];unfold shownV;split
 ·exact Nat.le_trans (List.length_filter_le _ _) (h.small k)
 ·simp
theorem modI_in (a : Int) {n : Int} (h : 1 <= n) : 0 <= modI a n /\ modI a n < n:=by
 unfold modI;rw [if_neg (by omega)];exact ⟨Int.emod_nonneg _ (by omega),Int.emod_lt_of_pos _ (by omega)⟩
open Go.RowKit Go.Maps
theorem keyS : Keyed Tryz.prog 9:=string_keyed Tryz.underlying9
def keyL (s : ByteArray) : Lit:=.string s.data.toList
theorem keyS_mk {s : ByteArray} (hs : s.size <= maxLen) : keyOf Tryz.prog 9 (.string s) = some (keyL s):=by
 simp [keyOf,Tryz.underlying9,mapKey,hs,keyL]
theorem keyL_inj {a b : ByteArray} (h : keyL a = keyL b) : a = b:=by
 unfold keyL at h;injection h with h
 cases a;cases b;simp only at h;rw [Array.toList_inj.1 h]
theorem keyS_inv {key : Value} {kl : Lit} (h : keyOf Tryz.prog 9 key = some kl) : ∃ s : ByteArray,key = .string s /\ kl = keyL s:=by
 simp only [keyOf,Tryz.underlying9] at h;unfold mapKey at h;rw [Tryz.underlying9] at h;cases key <;> simp at h
 rename_i s
 exact ⟨s,rfl,h.2.symm⟩
def evT (t : Ev × Value × Value) : Value:=evVal t.1 t.2.1 t.2.2
def EvSh (v : Value) : Prop:=∃ t,v = evT t
open Classical in
noncomputable def Rev (v : Value) : Option (DataW Value × List MemPlace):=if EvSh v then some (.held v,[]) else none
theorem rev_mk (t : Ev × Value × Value) : Rev (evT t) = some (.held (evT t),[]):=if_pos ⟨t,rfl⟩
theorem rev_inv {v : Value} {y : DataW Value × List MemPlace} (h : Rev v = some y) : (∃ t,v = evT t) /\ y = (.held v,[]):=by
 unfold Rev at h;split at h
 ·rename_i hs
  exact ⟨hs,(Option.some.inj h).symm⟩
 ·cases h
def entT (t : Ev × Value × Value) : Lit × DataW Value:=(keyL t.1.uid,.held (evT t))
structure MapE (b : Nat) (w : World) (ts : List (Ev × Value × Value)) : Prop where
 own : ∃ ents,w.ownsMap Tryz.prog 9 Rev b ts.length (.map ents) /\ ents.Perm (ts.map entT)
 one : ts.Pairwise (fun a c => a.1.uid ≠ c.1.uid)
theorem MapE.new (w : World) : MapE w.heap.size (w.alloc (.map #[] 0)) []:=⟨⟨[],World.ownsMap_made _ _ _ _,List.Perm.refl _⟩,List.Pairwise.nil⟩
theorem MapE.lt {b : Nat} {w : World} {ts : List (Ev × Value × Value)} (h : MapE b w ts) : b < w.heap.size:=by
 obtain ⟨⟨ents,h1,_⟩,_⟩:=h;exact h1.lt
theorem ownsMap_block {H : Type} {P : Program} {k : TypeId} {R : Value -> Option (DataW H × List MemPlace)} {b n : Nat} {D : DataW H} {w w' : World} (h : w.ownsMap P k R b n D) (hw : w'.heap[b]? = w.heap[b]?) : w'.ownsMap P k R b n D:=by
 obtain ⟨es,clock,h1,h2⟩:=h;exact ⟨es,clock,hw.trans h1,h2⟩
theorem MapE.block {b : Nat} {w w' : World} {ts : List (Ev × Value × Value)} (h : MapE b w ts) (hw : w'.heap[b]? = w.heap[b]?) : MapE b w' ts:=by
 obtain ⟨⟨ents,h1,h2⟩,h3⟩:=h;exact ⟨⟨ents,ownsMap_block h1 hw,h2⟩,h3⟩
theorem ents_apart {ts : List (Ev × Value × Value)} {ents : List (Lit × DataW Value)} (h3 : ts.Pairwise (fun a c => a.1.uid ≠ c.1.uid)) (h2 : ents.Perm (ts.map entT)) : ents.Pairwise (fun p q => p.1 ≠ q.1):=by
 refine (h2.pairwise_iff (fun {_ _} hne => Ne.symm hne)).2 ?_;rw [List.pairwise_map];exact h3.imp (fun h e => h (keyL_inj e))
theorem at_yes {ts : List (Ev × Value × Value)} {ents : List (Lit × DataW Value)} (h3 : ts.Pairwise (fun a c => a.1.uid ≠ c.1.uid)) (h2 : ents.Perm (ts.map entT)) {t : Ev × Value × Value} (ht : t ∈ ts) (z : DataW Value) : (DataW.map ents).atKey (keyL t.1.uid) z = .held (evT t) :=
 WideAt.atKey_mem z trivial (ents_apart h3 h2) (h2.mem_iff.2 (List.mem_map.2 ⟨t,ht,rfl⟩))
theorem at_no {ts : List (Ev × Value × Value)} {ents : List (Lit × DataW Value)} (h2 : ents.Perm (ts.map entT)) {k : ByteArray} (hk : ∀ t ∈ ts,t.1.uid ≠ k) (z : DataW Value) : (DataW.map ents).atKey (keyL k) z = z:=by
 refine WideAt.atKey_none z (fun p hp e => ?_);obtain ⟨t,ht,rfl⟩:=List.mem_map.1 (h2.mem_iff.1 hp);exact hk t ht (keyL_inj e)
theorem has_yes {ts : List (Ev × Value × Value)} {ents : List (Lit × DataW Value)} (h2 : ents.Perm (ts.map entT)) {t : Ev × Value × Value} (ht : t ∈ ts) : Maps.has (DataW.map ents) (keyL t.1.uid) = true:=by
 rw [has_eq,List.any_eq_true];exact ⟨entT t,h2.mem_iff.2 (List.mem_map.2 ⟨t,ht,rfl⟩),WideAt.sameKey_self trivial⟩
theorem has_no {ts : List (Ev × Value × Value)} {ents : List (Lit × DataW Value)} (h2 : ents.Perm (ts.map entT)) {k : ByteArray} (hk : ∀ t ∈ ts,t.1.uid ≠ k) : Maps.has (DataW.map ents) (keyL k) = false:=by
 rw [has_eq,List.any_eq_false];intro p hp e;obtain ⟨t,ht,rfl⟩:=List.mem_map.1 (h2.mem_iff.1 hp);exact hk t ht (keyL_inj (WideAt.sameKey_eq e))
def zeroT : Ev × Value × Value:=(evN,.slice none 0 0,.slice none 0 0)
theorem zeroE82 (w : World) : (zeroValue 82).run Tryz.prog w = .ok (evT zeroT) w:=by kernel_rfl
theorem held_inj {ps : List MemPlace} {a v : Value} (h : Rev v = some (.held a,ps)) : v = a:=by
 have:=(rev_inv h).2;simp only [Prod.mk.injEq,DataW.held.injEq] at this;exact this.1.symm
theorem MapE.look {b : Nat} {w : World} {ts : List (Ev × Value × Value)} (h : MapE b w ts) {t : Ev × Value × Value} (ht : t ∈ ts) (hs : t.1.uid.size <= maxLen) : (Instr.lookup 174 (.map (some b)) (.string t.1.uid) false).run Tryz.prog w = .ok (evT t) w:=by
 obtain ⟨⟨ents,h1,h2⟩,h3⟩:=h;obtain ⟨v,ps,hrun,hv⟩:=h1.lookup keyS Tryz.underlying174 (zeroE82 w) (rev_mk zeroT) (keyS_mk hs);rw [at_yes h3 h2 ht] at hv;rw [hrun,held_inj hv]
theorem MapE.look_yes {b : Nat} {w : World} {ts : List (Ev × Value × Value)} (h : MapE b w ts) {t : Ev × Value × Value} (ht : t ∈ ts) (hs : t.1.uid.size <= maxLen) : (Instr.lookup 174 (.map (some b)) (.string t.1.uid) true).run Tryz.prog w = .ok (.tuple #[evT t,.bool true]) w:=by
 obtain ⟨⟨ents,h1,h2⟩,h3⟩:=h;obtain ⟨v,ps,hrun,hv⟩:=h1.look_ok keyS Tryz.underlying174 (zeroE82 w) (rev_mk zeroT) (keyS_mk hs);rw [at_yes h3 h2 ht] at hv;rw [hrun,held_inj hv,has_yes h2 ht]
theorem MapE.look_no {b : Nat} {w : World} {ts : List (Ev × Value × Value)} (h : MapE b w ts) {k : ByteArray} (hk : ∀ t ∈ ts,t.1.uid ≠ k) (hs : k.size <= maxLen) : (Instr.lookup 174 (.map (some b)) (.string k) true).run Tryz.prog w = .ok (.tuple #[evT zeroT,.bool false]) w:=by
 obtain ⟨⟨ents,h1,h2⟩,h3⟩:=h;obtain ⟨v,ps,hrun,hv⟩:=h1.look_ok keyS Tryz.underlying174 (zeroE82 w) (rev_mk zeroT) (keyS_mk hs);rw [at_no h2 hk] at hv;rw [hrun,held_inj hv,has_no h2 hk]
theorem MapE.len {b : Nat} {w : World} {ts : List (Ev × Value × Value)} (h : MapE b w ts) (ty : TypeId) : (Builtin.len_ #[174] ty #[.map (some b)]).run Tryz.prog w = .ok (.int .i64 ts.length) w:=by
 obtain ⟨⟨ents,h1,h2⟩,h3⟩:=h;rw [h1.len Tryz.underlying174 ty,size_eq,h2.length_eq,List.length_map]
def putM (ts : List (Ev × Value × Value)) (t : Ev × Value × Value) : List (Ev × Value × Value):=t :: ts.filter (fun u => !decide (u.1.uid = t.1.uid))
theorem putM_one {ts : List (Ev × Value × Value)} {t : Ev × Value × Value} (h3 : ts.Pairwise (fun a c => a.1.uid ≠ c.1.uid)) : (putM ts t).Pairwise (fun a c => a.1.uid ≠ c.1.uid):=by
 refine List.pairwise_cons.2 ⟨fun u hu e => ?_,h3.sublist List.filter_sublist⟩;have:=(List.mem_filter.1 hu).2;rw [e] at this;simp at this
theorem tight {H : Type} {P : Program} {k : TypeId} {R : Value -> Option (DataW H × List MemPlace)} {b n : Nat} {D : DataW H} {w : World} (h : w.ownsMap P k R b n D) : w.ownsMap P k R b (Maps.size D) D:=by
 obtain ⟨es,clock,h1,h2,h3,rfl⟩:=h;exact ⟨es,clock,h1,h2,by simp [Maps.size,length_sorted],rfl⟩
theorem MapE.put {b : Nat} {w : World} {ts : List (Ev × Value × Value)} (h : MapE b w ts) (t : Ev × Value × Value) (hs : t.1.uid.size <= maxLen) (hn : ts.length < maxLen) : ∃ w',(Instr.mapUpdate 174 (.map (some b)) (.string t.1.uid) (evT t)).run Tryz.prog w = .ok () w' /\ MapE b w' (putM ts t) /\ w.mapTurned w' b:=by
 obtain ⟨⟨ents,h1,h2⟩,h3⟩:=h;obtain ⟨w',hrun,h4,h5⟩:=h1.store keyS Tryz.underlying174 hn (keyS_mk hs) (rev_mk t);rw [DataW.put_eq] at h4;have hp : (ChangeMaps.putKey (keyL t.1.uid) (.held (evT t)) ents).Perm ((putM ts t).map entT):=by
  refine (WideShapes.insert_perm _ _).trans ?_;show (entT t :: _).Perm (entT t :: _)
  refine List.Perm.cons _ ?_;have e : (ts.filter (fun u => !decide (u.1.uid = t.1.uid))).map entT = (ts.map entT).filter (ChangeMaps.notKey (keyL t.1.uid)):=by
   rw [List.filter_map];congr 1
   refine List.filter_congr fun u _ => ?_
   show _ = !(keyL u.1.uid).sameKey (keyL t.1.uid)
   congr 1
   by_cases hu : u.1.uid = t.1.uid
   ·rw [hu,WideAt.sameKey_self (show WideAt.IsKeyLit (keyL t.1.uid) from trivial)];simp
   ·rw [sameKey_ne (fun e => hu (keyL_inj e))];simp [hu]
  rw [e];exact h2.filter _
 refine ⟨w',hrun,⟨⟨_,?_,hp⟩,putM_one h3⟩,h5⟩;have h6:=tight h4;rw [size_eq,hp.length_eq,List.length_map] at h6;exact h6
def memB (x : ByteArray) (xs : List ByteArray) : Bool:=xs.any (fun u => decide (u = x))
def MapT (b : Nat) (xs : List ByteArray) (w : World) : Prop:=∃ (D : DataW Unit),w.ownsMap Tryz.prog 9 (plainElem Tryz.prog 4) b xs.length D /\ IsMap D /\ ∀ x : ByteArray,D.atKey (keyL x) (.lit (.bool false)) = .lit (.bool (memB x xs))
theorem MapT.new (w : World) : MapT w.heap.size [] (w.alloc (.map #[] 0)):=⟨.map [],World.ownsMap_made _ _ _ _,isMap_empty,fun x => by rfl⟩
theorem MapT.lt {b : Nat} {xs : List ByteArray} {w : World} (h : MapT b xs w) : b < w.heap.size:=by obtain ⟨D,h1,_⟩:=h;exact h1.lt
theorem MapT.block {b : Nat} {xs : List ByteArray} {w w' : World} (h : MapT b xs w) (hw : w'.heap[b]? = w.heap[b]?) : MapT b xs w':=by
 obtain ⟨D,h1,h2,h3⟩:=h;exact ⟨D,ownsMap_block h1 hw,h2,h3⟩
theorem MapT.look {b : Nat} {xs : List ByteArray} {w : World} (h : MapT b xs w) (x : ByteArray) (hs : x.size <= maxLen) :
  (Instr.lookup 230 (.map (some b)) (.string x) false).run Tryz.prog w = .ok (.bool (memB x xs)) w:=by
 obtain ⟨D,hD,hm,hx⟩:=h;obtain ⟨v,ps,hrun,hv⟩:=hD.lookup keyS Tryz.underlying230 (zeroB w) (plainElem_bool Tryz.underlying4 false) (keyS_mk hs);obtain ⟨c,rfl,hc⟩:=bool_inv Tryz.underlying4 hv;rw [hx x] at hc;simp only [Prod.mk.injEq,DataW.lit.injEq,Lit.bool.injEq] at hc;rw [hrun,hc.1]
theorem MapT.put {b : Nat} {xs : List ByteArray} {w : World} (h : MapT b xs w) (x : ByteArray) (hs : x.size <= maxLen) (hn : xs.length < maxLen) : ∃ w',(Instr.mapUpdate 230 (.map (some b)) (.string x) (.bool true)).run Tryz.prog w = .ok () w' /\ MapT b (xs ++ [x]) w' /\ w.mapTurned w' b:=by
 obtain ⟨D,hD,hm,hx⟩:=h;obtain ⟨w',hrun,h4,h5⟩:=hD.store keyS Tryz.underlying230 hn (keyS_mk hs) (plainElem_bool Tryz.underlying4 true);refine ⟨w',hrun,⟨_,by rw [List.length_append];exact h4,hm.put _ _,fun y => ?_⟩,h5⟩;by_cases hy : y = x
 ·subst hy;rw [atKey_put_same hm (show WideAt.IsKeyLit (keyL y) from trivial)];simp [memB]
 ·rw [atKey_put_other (fun e => hy (keyL_inj e)),hx y];simp [memB,Ne.symm hy]
theorem turned_other {w w' : World} {b k : Nat} (h : w.mapTurned w' b) (hk : k ≠ b) : w'.heap[k]? = w.heap[k]?:=by
 obtain ⟨es,clock,es',clock',hb,rfl⟩:=h;exact ChangeMaps.heap_setBlock_other hb _ hk
theorem turned_below {w w' : World} {b B : Nat} (h : w.mapTurned w' b) (hB : B <= b) : Below B w w':=by
 have hg:=h.grown;exact ⟨hg.os,hg.tape,hg.output,hg.size,fun k hk => turned_other h (by omega)⟩
theorem eq270 (xs ys : List Int) (ao bo : Option Addr) (c d B : Nat) (w : World) (hX : Ints B w ao xs) (hY : Ints B w bo ys) (hn : xs.length <= 4611686018427387903) (hn2 : ys.length <= 4611686018427387903) :
  Calls Tryz.prog 270 #[.slice ao xs.length c,.slice bo ys.length d] w fun e w' => e = .returned (.bool (decide (xs = ys))) /\ Below w.heap.size w w':=by
 by_cases hl : xs.length = ys.length
 ·by_cases hp : 0 < xs.length
  ·obtain ⟨b1,o1,rfl,h1,k1⟩:=hX.form hp;obtain ⟨b2,o2,rfl,h2,k2⟩:=hY.form (by omega);refine (Tryz.slices_Equal_int b1 o1 xs.length c b2 o2 ys.length d xs ys w (Nat.le_refl _) (Nat.le_refl _) (by omega) (by omega) (fun j hj => k1 j _ (by rw [List.getElem?_eq_getElem hj,List.getD_eq_getElem?_getD,List.getElem?_eq_getElem hj];rfl)) (fun j hj => k2 j _ (by rw [List.getElem?_eq_getElem hj,List.getD_eq_getElem?_getD,List.getElem?_eq_getElem hj];rfl))).mono ?_;rintro e w' ⟨rfl,q,rfl⟩;refine ⟨ret_bool ?_,by obtain ⟨w2,g1,g2, -⟩:=redrew w q;rw [<- g1];exact g2 _⟩;rw [List.take_length,List.take_length];by_cases h : xs = ys
   ·simp [h]
   ·simp [h]
  ·have e1 : xs = []:=List.eq_nil_of_length_eq_zero (by omega);have e2 : ys = []:=List.eq_nil_of_length_eq_zero (by omega);subst e1 e2;refine (Tryz.slices_Equal_int_empty ao bo c 0 d w (by omega)).mono ?_;rintro e w' ⟨rfl,rfl⟩;exact ⟨rfl,Below.refl _ _⟩
 ·have HD:=Lh (show decide (xs = ys) = false from decide_eq_false (fun e => hl (by rw [e])));obtain ⟨n,hn3⟩ : ∃ n,n = xs.length:=⟨_,rfl⟩
  obtain ⟨m,hm3⟩ : ∃ m,m = ys.length:=⟨_,rfl⟩
  rw [<- hn3,<- hm3] at hl ⊢;have hl1 : ¬ (n : Int) = (m : Int):=by omega
  have hl2 : ((n : Int) != (m : Int)) = true:=by simpa using hl1
  have hl3 : ((n : Int) == (m : Int)) = false:=by simpa using hl1
  clear hX hY hn hn2 hn3 hm3;go_enter Tryz.func270,Tryz.ntmps270;go_wp2_with fail;go_ret;exact ⟨ret_bool HD.out.symm,Below.refl _ _⟩
def serQ (a b : Ev) : Bool:=decide (a.days.first = b.days.first /\ a.days.last = b.days.last /\ a.days.every = b.days.every /\ a.days.wd = b.days.wd) && (decide (a.days.ex = b.days.ex) && decide (a.days.xt = b.days.xt))
def sameQ (a b : Ev) : Bool:=serQ a b && (decide (a.uid = b.uid) && (decide (a.canc = b.canc) && (decide (a.start = b.start) && (decide (a.mins = b.mins) && (decide (a.summ = b.summ) && decide (a.loc = b.loc))))))
theorem sameQ_iff (a b : Ev) : sameQ a b = true ↔ { a with seq:=b.seq } = b:=by
 obtain ⟨u,s,c,⟨f,l,v,d,x,y⟩,st,m,su,lo⟩:=a;obtain ⟨u',s',c',⟨f',l',v',d',x',y'⟩,st',m',su',lo'⟩:=b;unfold sameQ serQ;simp only [Bool.and_eq_true,decide_eq_true_eq,Ev.mk.injEq,Tt.Ser.mk.injEq];constructor
 ·rintro ⟨⟨⟨h1,h2,h3,h4⟩,h5,h6⟩,h7,h8,h9,h10,h11,h12⟩;exact ⟨h7,trivial,h8,⟨h1,h2,h3,h4,h5,h6⟩,h9,h10,h11,h12⟩
 ·rintro ⟨h7,_,h8,⟨h1,h2,h3,h4,h5,h6⟩,h9,h10,h11,h12⟩;exact ⟨⟨⟨h1,h2,h3,h4⟩,h5,h6⟩,h7,h8,h9,h10,h11,h12⟩
theorem same199 (ea eb : Ev) (p p2 q q2 : Option Addr) (c c2 d d2 B : Nat) (w : World) (hB : B <= w.heap.size) (hI1 : Ints B w p ea.days.ex) (hI2 : Ints B w p2 ea.days.xt) (hI3 : Ints B w q eb.days.ex) (hI4 : Ints B w q2 eb.days.xt) (hn1 : ea.days.ex.length <= 4611686018427387903) (hn2 : ea.days.xt.length <= 4611686018427387903) (hn3 : eb.days.ex.length <= 4611686018427387903) (hn4 : eb.days.xt.length <= 4611686018427387903) : Calls Tryz.prog 199 #[.agg #[.string ea.uid,.int .i64 ea.seq,.bool ea.canc,.int .i64 ea.days.first,.int .i64 ea.days.last,.int .i64 ea.days.every,.int .i64 ea.days.wd,.slice p ea.days.ex.length c,.slice p2 ea.days.xt.length c2,.int .i64 ea.start,.int .i64 ea.mins,.string ea.summ,.string ea.loc],.agg #[.string eb.uid,.int .i64 eb.seq,.bool eb.canc,.int .i64 eb.days.first,.int .i64 eb.days.last,.int .i64 eb.days.every,.int .i64 eb.days.wd,.slice q eb.days.ex.length d,.slice q2 eb.days.xt.length d2,.int .i64 eb.start,.int .i64 eb.mins,.string eb.summ,.string eb.loc]] w fun e w' => e = .returned (.bool (sameQ ea eb)) /\ Below w.heap.size w w':=by
 obtain ⟨X,hX⟩ : ∃ x,x = w.heap.size:=⟨_,rfl⟩
 obtain ⟨Y,hY⟩ : ∃ x,x = w.heap.size + 1:=⟨_,rfl⟩
 obtain ⟨w0,hw0⟩ : ∃ x,x = (w.alloc (.cells #[.string ea.uid,.int .i64 ea.seq,.bool ea.canc,.int .i64 ea.days.first,.int .i64 ea.days.last,.int .i64 ea.days.every,.int .i64 ea.days.wd,.slice p ea.days.ex.length c,.slice p2 ea.days.xt.length c2,.int .i64 ea.start,.int .i64 ea.mins,.string ea.summ,.string ea.loc] 82)).alloc (.cells #[.string eb.uid,.int .i64 eb.seq,.bool eb.canc,.int .i64 eb.days.first,.int .i64 eb.days.last,.int .i64 eb.days.every,.int .i64 eb.days.wd,.slice q eb.days.ex.length d,.slice q2 eb.days.xt.length d2,.int .i64 eb.start,.int .i64 eb.mins,.string eb.summ,.string eb.loc] 82):=⟨_,rfl⟩
 have HX0:=Lh (show Blk X #[.string ea.uid,.int .i64 ea.seq,.bool ea.canc,.int .i64 ea.days.first,.int .i64 ea.days.last,.int .i64 ea.days.every,.int .i64 ea.days.wd,.slice p ea.days.ex.length c,.slice p2 ea.days.xt.length c2,.int .i64 ea.start,.int .i64 ea.mins,.string ea.summ,.string ea.loc] 82 w0 from by rw [hw0,hX];exact (Blk.new w _ _).alloc _);have HY0:=Lh (show Blk Y #[.string eb.uid,.int .i64 eb.seq,.bool eb.canc,.int .i64 eb.days.first,.int .i64 eb.days.last,.int .i64 eb.days.every,.int .i64 eb.days.wd,.slice q eb.days.ex.length d,.slice q2 eb.days.xt.length d2,.int .i64 eb.start,.int .i64 eb.mins,.string eb.summ,.string eb.loc] 82 w0 from by rw [hw0,hY];exact Blk.new' _ _ _ (by simp));have HL0:=Lh (show Below w.heap.size w w0 from by rw [hw0];exact (below_box w _).trans ((below_box _ _).mono (by simp)));have HI1:=Lh (hI1.mono hB);have HI2:=Lh (hI2.mono hB);have HI3:=Lh (hI3.mono hB);have HI4:=Lh (hI4.mono hB);clear hI1 hI2 hI3 hI4;go_enter Tryz.func199,Tryz.ntmps199;go_upto_region 1 with (fail);rw [<- hw0,<- hY,<- hX];clear hw0 hX hY;go_cut [5,6] from 5 to 10 (fun s5 s6 wx => ∃ P Q : Nat,s5 = .pointer (some ⟨P,0,none⟩) /\ s6 = .pointer (some ⟨Q,0,none⟩) /\ Hid (Blk P #[.int .i64 ea.days.first,.int .i64 ea.days.last,.int .i64 ea.days.every,.int .i64 ea.days.wd,.slice p ea.days.ex.length c,.slice p2 ea.days.xt.length c2] 80 wx) /\ Hid (Blk Q #[.int .i64 eb.days.first,.int .i64 eb.days.last,.int .i64 eb.days.every,.int .i64 eb.days.wd,.slice q eb.days.ex.length d,.slice q2 eb.days.xt.length d2] 80 wx) /\ Hid (Below w0.heap.size w0 wx))
 case first =>
  have x3 : w0.cell? ⟨X,3,none⟩ = some (.int .i64 ea.days.first):=HX0.out.cell 3;have x4 : w0.cell? ⟨X,4,none⟩ = some (.int .i64 ea.days.last):=HX0.out.cell 4;have x5 : w0.cell? ⟨X,5,none⟩ = some (.int .i64 ea.days.every):=HX0.out.cell 5;have x6 : w0.cell? ⟨X,6,none⟩ = some (.int .i64 ea.days.wd):=HX0.out.cell 6;have x7 : w0.cell? ⟨X,7,none⟩ = some (.slice p ea.days.ex.length c):=HX0.out.cell 7;have x8 : w0.cell? ⟨X,8,none⟩ = some (.slice p2 ea.days.xt.length c2):=HX0.out.cell 8;have y3 : w0.cell? ⟨Y,3,none⟩ = some (.int .i64 eb.days.first):=HY0.out.cell 3;have y4 : w0.cell? ⟨Y,4,none⟩ = some (.int .i64 eb.days.last):=HY0.out.cell 4;have y5 : w0.cell? ⟨Y,5,none⟩ = some (.int .i64 eb.days.every):=HY0.out.cell 5;have y6 : w0.cell? ⟨Y,6,none⟩ = some (.int .i64 eb.days.wd):=HY0.out.cell 6;have y7 : w0.cell? ⟨Y,7,none⟩ = some (.slice q eb.days.ex.length d):=HY0.out.cell 7;have y8 : w0.cell? ⟨Y,8,none⟩ = some (.slice q2 eb.days.xt.length d2):=HY0.out.cell 8;have hxl:=HX0.out.lt;have hyl:=HY0.out.lt;go_region
  ·go_wp2_with fail;go_meet
   case rel => exact ⟨_,_,rfl,rfl,Lh ((Blk.new w0 _ _).alloc _).draw,Lh (Blk.new' _ _ _ (by simp)).draw,Lh (below_drw ((below_box w0 _).trans ((below_box _ _).mono (by simp))))⟩
  ·go_wp2_with fail;go_meet
   case rel => exact ⟨_,_,rfl,rfl,Lh (Blk.new' _ _ _ (by simp)).draw,Lh ((Blk.new w0 _ _).alloc _).draw,Lh (below_drw ((below_box w0 _).trans ((below_box _ _).mono (by simp))))⟩
 case rest =>
  obtain ⟨P,Q,rfl,rfl,HP,HQ,HW⟩:=hcut;have HLc:=Lh (HL0.out.trans (HW.out.mono HL0.out.size));by_cases h : ea.days.first = eb.days.first /\ ea.days.last = eb.days.last /\ ea.days.every = eb.days.every /\ ea.days.wd = eb.days.wd
  rotate_left
  ·have HR:=Lh (show sameQ ea eb = false from by unfold sameQ serQ;rw [decide_eq_false h];rfl);have x0 : wc.cell? ⟨P,0,none⟩ = some (.int .i64 ea.days.first):=HP.out.cell 0;have x1 : wc.cell? ⟨P,1,none⟩ = some (.int .i64 ea.days.last):=HP.out.cell 1;have x2 : wc.cell? ⟨P,2,none⟩ = some (.int .i64 ea.days.every):=HP.out.cell 2;have x3 : wc.cell? ⟨P,3,none⟩ = some (.int .i64 ea.days.wd):=HP.out.cell 3;have x4 : wc.cell? ⟨P,4,none⟩ = some (.slice p ea.days.ex.length c):=HP.out.cell 4;have x5 : wc.cell? ⟨P,5,none⟩ = some (.slice p2 ea.days.xt.length c2):=HP.out.cell 5;have y0 : wc.cell? ⟨Q,0,none⟩ = some (.int .i64 eb.days.first):=HQ.out.cell 0;have y1 : wc.cell? ⟨Q,1,none⟩ = some (.int .i64 eb.days.last):=HQ.out.cell 1;have y2 : wc.cell? ⟨Q,2,none⟩ = some (.int .i64 eb.days.every):=HQ.out.cell 2;have y3 : wc.cell? ⟨Q,3,none⟩ = some (.int .i64 eb.days.wd):=HQ.out.cell 3;have y4 : wc.cell? ⟨Q,4,none⟩ = some (.slice q eb.days.ex.length d):=HQ.out.cell 4;have y5 : wc.cell? ⟨Q,5,none⟩ = some (.slice q2 eb.days.xt.length d2):=HQ.out.cell 5;go_wp2_with fail
   all_goals first | (exfalso;omega) | (go_ret;exact ⟨ret_bool HR.out.symm,HLc.out⟩)
  obtain ⟨e1,e2,e3,e4⟩:=h;have HS:=Lh (show sameQ ea eb = ((decide (ea.days.ex = eb.days.ex) && decide (ea.days.xt = eb.days.xt)) && (decide (ea.uid = eb.uid) && (decide (ea.canc = eb.canc) && (decide (ea.start = eb.start) && (decide (ea.mins = eb.mins) && (decide (ea.summ = eb.summ) && decide (ea.loc = eb.loc))))))) from by unfold sameQ serQ;rw [decide_eq_true ⟨e1,e2,e3,e4⟩,Bool.true_and]);have HP2:=Lh (show Blk P #[.int .i64 eb.days.first,.int .i64 eb.days.last,.int .i64 eb.days.every,.int .i64 eb.days.wd,.slice p ea.days.ex.length c,.slice p2 ea.days.xt.length c2] 80 wc from by rw [<- e1,<- e2,<- e3,<- e4];exact HP.out);clear HP e1 e2 e3 e4;have x0 : wc.cell? ⟨P,0,none⟩ = some (.int .i64 eb.days.first):=HP2.out.cell 0;have x1 : wc.cell? ⟨P,1,none⟩ = some (.int .i64 eb.days.last):=HP2.out.cell 1;have x2 : wc.cell? ⟨P,2,none⟩ = some (.int .i64 eb.days.every):=HP2.out.cell 2;have x3 : wc.cell? ⟨P,3,none⟩ = some (.int .i64 eb.days.wd):=HP2.out.cell 3;have x4 : wc.cell? ⟨P,4,none⟩ = some (.slice p ea.days.ex.length c):=HP2.out.cell 4;have x5 : wc.cell? ⟨P,5,none⟩ = some (.slice p2 ea.days.xt.length c2):=HP2.out.cell 5;have y0 : wc.cell? ⟨Q,0,none⟩ = some (.int .i64 eb.days.first):=HQ.out.cell 0;have y1 : wc.cell? ⟨Q,1,none⟩ = some (.int .i64 eb.days.last):=HQ.out.cell 1;have y2 : wc.cell? ⟨Q,2,none⟩ = some (.int .i64 eb.days.every):=HQ.out.cell 2;have y3 : wc.cell? ⟨Q,3,none⟩ = some (.int .i64 eb.days.wd):=HQ.out.cell 3;have y4 : wc.cell? ⟨Q,4,none⟩ = some (.slice q eb.days.ex.length d):=HQ.out.cell 4;have y5 : wc.cell? ⟨Q,5,none⟩ = some (.slice q2 eb.days.xt.length d2):=HQ.out.cell 5;have hbx : Below w.heap.size w wc:=HLc.out;have H1:=Lh (eq270 ea.days.ex eb.days.ex p q c d wc.heap.size wc ((HI1.out.below hbx).mono hbx.size) ((HI3.out.below hbx).mono hbx.size) hn1 hn3);clear hbx;obtain ⟨b1,hb1⟩ : ∃ b,b = decide (ea.days.ex = eb.days.ex):=⟨_,rfl⟩
  rw [<- hb1] at H1 HS;clear hb1;go_wp2_with fail;refine H1.out.mono ?_;clear H1;rintro e w1 ⟨rfl,hb⟩;have HK1:=Lh hb;have HL1:=Lh (HLc.out.trans (hb.mono HLc.out.size));clear hb x0 y0 x1 y1 x2 y2 x3 y3 x4 y4 x5 y5;cases b1
  ·have HR:=Lh (show sameQ ea eb = false from HS.out);go_wp2_with fail;go_ret;exact ⟨ret_bool HR.out.symm,HL1.out⟩
  have HP3:=Lh (HP2.out.below HK1.out HP2.out.lt);have HQ3:=Lh (HQ.out.below HK1.out HQ.out.lt);have x0 : w1.cell? ⟨P,0,none⟩ = some (.int .i64 eb.days.first):=HP3.out.cell 0;have x1 : w1.cell? ⟨P,1,none⟩ = some (.int .i64 eb.days.last):=HP3.out.cell 1;have x2 : w1.cell? ⟨P,2,none⟩ = some (.int .i64 eb.days.every):=HP3.out.cell 2;have x3 : w1.cell? ⟨P,3,none⟩ = some (.int .i64 eb.days.wd):=HP3.out.cell 3;have x4 : w1.cell? ⟨P,4,none⟩ = some (.slice p ea.days.ex.length c):=HP3.out.cell 4;have x5 : w1.cell? ⟨P,5,none⟩ = some (.slice p2 ea.days.xt.length c2):=HP3.out.cell 5;have y0 : w1.cell? ⟨Q,0,none⟩ = some (.int .i64 eb.days.first):=HQ3.out.cell 0;have y1 : w1.cell? ⟨Q,1,none⟩ = some (.int .i64 eb.days.last):=HQ3.out.cell 1;have y2 : w1.cell? ⟨Q,2,none⟩ = some (.int .i64 eb.days.every):=HQ3.out.cell 2;have y3 : w1.cell? ⟨Q,3,none⟩ = some (.int .i64 eb.days.wd):=HQ3.out.cell 3;have y4 : w1.cell? ⟨Q,4,none⟩ = some (.slice q eb.days.ex.length d):=HQ3.out.cell 4;have y5 : w1.cell? ⟨Q,5,none⟩ = some (.slice q2 eb.days.xt.length d2):=HQ3.out.cell 5;have hbx : Below w.heap.size w w1:=HL1.out;have H1:=Lh (eq270 ea.days.xt eb.days.xt p2 q2 c2 d2 w1.heap.size w1 ((HI2.out.below hbx).mono hbx.size) ((HI4.out.below hbx).mono hbx.size) hn2 hn4);clear hbx;obtain ⟨b2,hb2⟩ : ∃ b,b = decide (ea.days.xt = eb.days.xt):=⟨_,rfl⟩
  rw [<- hb2] at H1 HS;clear hb2;go_wp2_with fail;refine H1.out.mono ?_;clear H1;rintro e w2 ⟨rfl,hb⟩;have HK2:=Lh (HW.out.trans ((HK1.out.trans (hb.mono HK1.out.size)).mono HW.out.size));have HL2:=Lh (HL1.out.trans (hb.mono HL1.out.size));clear hb x0 y0 x1 y1 x2 y2 x3 y3 x4 y4 x5 y5;cases b2
  ·have HR:=Lh (show sameQ ea eb = false from HS.out);go_wp2_with fail;go_ret;exact ⟨ret_bool HR.out.symm,HL2.out⟩
  have HX3:=Lh (HX0.out.below HK2.out HX0.out.lt);have HY3:=Lh (HY0.out.below HK2.out HY0.out.lt);have x0 : w2.cell? ⟨X,0,none⟩ = some (.string ea.uid):=HX3.out.cell 0;have x1 : w2.cell? ⟨X,1,none⟩ = some (.int .i64 ea.seq):=HX3.out.cell 1;have x2 : w2.cell? ⟨X,2,none⟩ = some (.bool ea.canc):=HX3.out.cell 2;have x3 : w2.cell? ⟨X,3,none⟩ = some (.int .i64 ea.days.first):=HX3.out.cell 3;have x4 : w2.cell? ⟨X,4,none⟩ = some (.int .i64 ea.days.last):=HX3.out.cell 4;have x5 : w2.cell? ⟨X,5,none⟩ = some (.int .i64 ea.days.every):=HX3.out.cell 5;have x6 : w2.cell? ⟨X,6,none⟩ = some (.int .i64 ea.days.wd):=HX3.out.cell 6;have x7 : w2.cell? ⟨X,7,none⟩ = some (.slice p ea.days.ex.length c):=HX3.out.cell 7;have x8 : w2.cell? ⟨X,8,none⟩ = some (.slice p2 ea.days.xt.length c2):=HX3.out.cell 8;have x9 : w2.cell? ⟨X,9,none⟩ = some (.int .i64 ea.start):=HX3.out.cell 9;have x10 : w2.cell? ⟨X,10,none⟩ = some (.int .i64 ea.mins):=HX3.out.cell 10;have x11 : w2.cell? ⟨X,11,none⟩ = some (.string ea.summ):=HX3.out.cell 11;have x12 : w2.cell? ⟨X,12,none⟩ = some (.string ea.loc):=HX3.out.cell 12;have y0 : w2.cell? ⟨Y,0,none⟩ = some (.string eb.uid):=HY3.out.cell 0;have y1 : w2.cell? ⟨Y,1,none⟩ = some (.int .i64 eb.seq):=HY3.out.cell 1;have y2 : w2.cell? ⟨Y,2,none⟩ = some (.bool eb.canc):=HY3.out.cell 2;have y3 : w2.cell? ⟨Y,3,none⟩ = some (.int .i64 eb.days.first):=HY3.out.cell 3;have y4 : w2.cell? ⟨Y,4,none⟩ = some (.int .i64 eb.days.last):=HY3.out.cell 4;have y5 : w2.cell? ⟨Y,5,none⟩ = some (.int .i64 eb.days.every):=HY3.out.cell 5;have y6 : w2.cell? ⟨Y,6,none⟩ = some (.int .i64 eb.days.wd):=HY3.out.cell 6;have y7 : w2.cell? ⟨Y,7,none⟩ = some (.slice q eb.days.ex.length d):=HY3.out.cell 7;have y8 : w2.cell? ⟨Y,8,none⟩ = some (.slice q2 eb.days.xt.length d2):=HY3.out.cell 8;have y9 : w2.cell? ⟨Y,9,none⟩ = some (.int .i64 eb.start):=HY3.out.cell 9;have y10 : w2.cell? ⟨Y,10,none⟩ = some (.int .i64 eb.mins):=HY3.out.cell 10;have y11 : w2.cell? ⟨Y,11,none⟩ = some (.string eb.summ):=HY3.out.cell 11;have y12 : w2.cell? ⟨Y,12,none⟩ = some (.string eb.loc):=HY3.out.cell 12;go_wp2_with fail
  all_goals go_ret
  all_goals refine ⟨ret_bool ?_,HL2.out⟩
  all_goals rw [HS.out,<- dec_bytes,<- dec_bytes,<- dec_bytes]
  all_goals simp [*]
abbrev Tri:=Ev × Value × Value
theorem putM_map {ts : List Tri} {t : Tri} {es : List Ev} (hp : (ts.map (·.1)).Perm es) (ha : AscU es) : ((putM ts t).map (·.1)).Perm (putE t.1 es):=by
 refine List.Perm.trans ?_ (putE_perm ha).symm;unfold putM;rw [List.map_cons];refine List.Perm.cons _ ?_;have e : (ts.filter (fun u => !decide (u.1.uid = t.1.uid))).map (·.1) = (ts.map (·.1)).filter (fun u => !decide (u.uid = t.1.uid)):=by
  rw [List.filter_map];rfl
 rw [e];exact hp.filter _
theorem advS_no {ts : List Tri} {es : List Ev} {e : Ev} (hp : (ts.map (·.1)).Perm es) (k : Int) (h : ∀ x ∈ ts,x.1.uid ≠ e.uid) : advS k es e = putE e es:=by
 unfold advS;rw [getE_no];intro o ho;obtain ⟨x,hx,rfl⟩:=List.mem_map.1 (hp.mem_iff.2 ho);exact h x hx
theorem advS_yes {ts : List Tri} {es : List Ev} {e : Ev} (hp : (ts.map (·.1)).Perm es) (ha : AscU es) (k : Int) (hk : e.seq = k) {t : Tri} (ht : t ∈ ts) (hu : t.1.uid = e.uid) : advS k es e = if sameQ t.1 e = true then es else putE e es:=by
 have hm : t.1 ∈ es:=hp.mem_iff.1 (List.mem_map.2 ⟨t,ht,rfl⟩);unfold advS;rw [<- hu,getE_yes ha hm];by_cases h : sameQ t.1 e = true
 ·rw [if_pos h];have:=(sameQ_iff _ _).1 h;rw [hk] at this;exact if_pos this
 ·rw [if_neg h];refine if_neg (fun h2 => h ((sameQ_iff _ _).2 ?_));rw [hk];exact h2
theorem Tri.one {ts : List Tri} (h : ts.Pairwise (fun a c => a.1.uid ≠ c.1.uid)) {a b : Tri} (ha : a ∈ ts) (hb : b ∈ ts) (he : a.1.uid = b.1.uid) : a = b:=by
 induction ts with
 | nil => cases ha
 | cons x r ih =>
  obtain ⟨h1,h2⟩:=List.pairwise_cons.1 h;rcases List.mem_cons.1 ha with e1 | ha1
  ·rcases List.mem_cons.1 hb with e2 | hb1
   ·rw [e1,e2]
   ·exact absurd (by rw [<- e1];exact he) (h1 b hb1)
  ·rcases List.mem_cons.1 hb with e2 | hb1
   ·exact absurd (by rw [<- e2];exact he.symm) (h1 a ha1)
   ·exact ih h2 ha1 hb1
def canT (k : Int) (t : Tri) : Tri:=({ t.1 with canc:=true,seq:=k },t.2)
def canF (k : Int) (us : List ByteArray) (t : Tri) : Tri:=if memB t.1.uid us = true then canT k t else t
theorem canF_uid (k : Int) (us : List ByteArray) (t : Tri) : (canF k us t).1.uid = t.1.uid:=by unfold canF;split <;> rfl
theorem memB_iff (x : ByteArray) (xs : List ByteArray) : memB x xs = true ↔ x ∈ xs:=by
 unfold memB;rw [List.any_eq_true];constructor
 ·rintro ⟨u,hu,h⟩;have:=of_decide_eq_true h;rw [<- this];exact hu
 ·intro h;exact ⟨x,h,decide_eq_true rfl⟩
theorem split_one : ∀ {ts : List Tri} {t : Tri},ts.Pairwise (fun a c => a.1.uid ≠ c.1.uid) -> t ∈ ts -> ts.Perm (t :: ts.filter (fun u => !decide (u.1.uid = t.1.uid)))
 | [],_,_,h => by cases h
 | x :: r,t,hp,h => by
  obtain ⟨h1,h2⟩:=List.pairwise_cons.1 hp;rcases List.mem_cons.1 h with e | h3
  ·subst e;rw [List.filter_cons,if_neg (by simp),List.filter_eq_self.2 (fun u hu => by simpa using (h1 u hu).symm)]
  ·rw [List.filter_cons,if_pos (by simpa using h1 t h3)];exact ((split_one h2 h3).cons x).trans (List.Perm.swap _ _ _)
theorem can_step {ts : List Tri} {t : Tri} {us : List ByteArray} (k : Int) (hp : ts.Pairwise (fun a c => a.1.uid ≠ c.1.uid)) (ht : t ∈ ts) : (putM (ts.map (canF k us)) (canT k t)).Perm (ts.map (canF k (us ++ [t.1.uid]))):=by
 refine List.Perm.trans ?_ ((split_one hp ht).map (canF k (us ++ [t.1.uid]))).symm;unfold putM;rw [List.map_cons];have e1 : canF k (us ++ [t.1.uid]) t = canT k t:=by unfold canF;rw [if_pos ((memB_iff _ _).2 (by simp))]
 rw [e1];refine List.Perm.cons _ ?_;rw [List.filter_map];have e2 : ∀ u ∈ ts.filter (fun u => !decide (u.1.uid = t.1.uid)),canF k us u = canF k (us ++ [t.1.uid]) u:=by
  intro u hu;have hne : ¬ u.1.uid = t.1.uid:=by simpa using (List.mem_filter.1 hu).2
  unfold canF;have : memB u.1.uid (us ++ [t.1.uid]) = memB u.1.uid us:=by
   rw [Bool.eq_iff_iff,memB_iff,memB_iff];simp [hne]
  rw [this]
 have e3 : ts.filter ((fun u => !decide (u.1.uid = (canT k t).1.uid)) ∘ canF k us) = ts.filter (fun u => !decide (u.1.uid = t.1.uid)):=by
  refine List.filter_congr fun u _ => ?_
  show (!decide ((canF k us u).1.uid = t.1.uid)) = _
  rw [canF_uid]
 rw [e3,List.map_congr_left e2]
theorem canF_nil (k : Int) (ts : List Tri) : ts.map (canF k []) = ts:=by
 have : ∀ t ∈ ts,canF k [] t = id t:=fun t _ => by unfold canF;rw [if_neg (by simp [memB])];rfl
 rw [List.map_congr_left this,List.map_id]
def goneT (here : List ByteArray) (t : Tri) : Bool:=!memB t.1.uid here && !t.1.canc
theorem can_all {ts : List Tri} {es : List Ev} {us here : List ByteArray} (k : Int) (hp : ts.Pairwise (fun a c => a.1.uid ≠ c.1.uid)) (hm : (ts.map (·.1)).Perm es) (hu : us.Perm ((ts.filter (goneT here)).map (fun t => t.1.uid))) : ((ts.map (canF k us)).map (·.1)).Perm (advC k here es):=by
 have e : (ts.map (canF k us)).map (·.1) = (ts.map (·.1)).map (goneE k here):=by
  rw [List.map_map,List.map_map];refine List.map_congr_left fun t ht => ?_
  show (canF k us t).1 = goneE k here t.1
  have hk : memB t.1.uid us = true ↔ goneT here t = true:=by
   rw [memB_iff,hu.mem_iff,List.mem_map];constructor
   ·rintro ⟨x,hx,he⟩;obtain ⟨h1,h2⟩:=List.mem_filter.1 hx;rw [<- Tri.one hp h1 ht he];exact h2
   ·intro h;exact ⟨t,List.mem_filter.2 ⟨ht,h⟩,rfl⟩
  unfold canF goneE;by_cases hg : goneT here t = true
  ·rw [if_pos (hk.2 hg),if_neg]
   ·rfl
   ·unfold goneT at hg;rw [Bool.and_eq_true] at hg;have h1 : memB t.1.uid here = false:=by simpa using hg.1
    have h2 : t.1.canc = false:=by simpa using hg.2
    unfold memB at h1;rw [h2,h1];simp
  ·rw [if_neg (fun h => hg (hk.1 h)),if_pos];unfold goneT at hg;cases h1 : memB t.1.uid here with
   | true => unfold memB at h1;rw [h1];simp
   | false =>
    cases h2 : t.1.canc with
    | true => rfl
    | false => rw [h1,h2] at hg;exact absurd rfl hg
 rw [e];exact hm.map _
theorem RefT.can {lo : Nat} {w : World} {t : Tri} (h : RefT lo w t) (k : Int) : RefT lo w (canT k t):=⟨⟨h.1.ex,h.1.xt,h.1.uid,h.1.summ,h.1.loc⟩,h.2⟩
end Go.Proofs.YtageielcdebjlaaGreatDoor
