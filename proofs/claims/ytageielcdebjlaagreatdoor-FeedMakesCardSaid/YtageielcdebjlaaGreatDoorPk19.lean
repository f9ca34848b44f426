/- Plain facts on zones: which are valid, the instants at which clocks show a local time, and what a local time means. No program in sight. Condition: none. Shifts in a row of their own, as a drawn zone holds them. No function of the program in sight. Condition: none. Sessions in rows of one's own. timetablemore.put: a session laid into a list: its contract. The drawn versions of a timetable, plain: sessions in ascending order of their classes. No program in sight. Condition: none. -/
import Derived.Test.YtageielcdebjlaaGreatDoorPk1
import Derived.Test.YtageielcdebjlaaGreatDoorPk8
import Derived.Test.YtageielcdebjlaaGreatDoorPk7
import Derived.StillTailTactics
import Derived.Test.YtageielcdebjlaaGreatDoorPk5
import Derived.Test.YtageielcdebjlaaGreatDoorGenT2
import Derived.BigQuiet
namespace Tt
def nearB (o : Int) : Bool:=decide (-840 <= o) && decide (o <= 840)
def instB (t : Int) : Bool:=decide (0 <= t) && decide (t < 52596000)
theorem nearB_iff (o : Int) : nearB o = true ↔ -840 <= o /\ o <= 840:=by unfold nearB;simp
theorem instB_iff (t : Int) : instB t = true ↔ 0 <= t /\ t < 52596000:=by unfold instB;simp
def lateA : Option Int -> Int -> Bool
 | none,_ => false
 | some q,a => decide (a < q + 2880)
def shV : Option Int -> Int -> List (Int × Int) -> Int
 | _,_,[] => 0
 | p,off,x :: r => if (instB x.1 && nearB x.2) = false then 3 else if lateA p x.1 = true then 63 else if x.2 = off ∨ off + 180 < x.2 ∨ x.2 < off - 180 then 1 else shV (some x.1) x.2 r
def Asc : Int -> List (Int × Int) -> Prop
 | _,[] => True
 | m,x :: r => m <= x.1 /\ 0 <= x.1 /\ x.1 < 52596000 /\ -840 <= x.2 /\ x.2 <= 840 /\ Asc (x.1 + 2880) r
theorem asc_of : ∀ (sh : List (Int × Int)) (p : Option Int) (off m : Int),shV p off sh = 0 -> (∀ q,p = some q -> m <= q + 2880) -> (p = none -> m <= 0) -> Asc m sh
 | [],_,_,_,_,_,_ => trivial
 | x :: r,p,off,m,h,h1,h2 => by
  rw [shV] at h;split at h
  ·cases h
  ·rename_i g1
   simp only [Bool.not_eq_false,Bool.and_eq_true,instB_iff,nearB_iff] at g1;split at h
   ·cases h
   ·rename_i g2
    split at h
    ·cases h
    ·refine ⟨?_,g1.1.1,g1.1.2,g1.2.1,g1.2.2,asc_of r (some x.1) x.2 _ h (fun q hq => by cases hq;omega) (fun e => by cases e)⟩;cases p with
     | none => have:=h2 rfl;omega
     | some q => have:=h1 q rfl;simp [lateA] at g2;omega
end Tt
namespace Go.Proofs.YtageielcdebjlaaGreatDoor
open Go.RowKit
theorem row_put {w : World} {B k n c g : Nat} {e : TypeId} {xs : List Value} (h : w.ownsRow B e k (.slice (some ⟨g,0,none⟩) n c) n xs) (i : Nat) (u : Value) : (w.setCell ⟨g,i,none⟩ u).ownsRow B e k (.slice (some ⟨g,0,none⟩) n c) n (xs.set i u):=by
 rcases h.2 with ⟨hv,_⟩ | ⟨g',cap,cur,hv,r2,r3,r4,r5,r6,r7⟩
 ·cases hv
 ·cases hv;refine ⟨by rw [List.length_set];exact h.1,.inr ⟨g,c,cur.setIfInBounds i u,rfl,r2,(show Blk g cur e w from r3).set i u,r4,r5,by rw [Array.size_setIfInBounds];exact r6,?_⟩⟩;rw [<- r7,Array.toList_setIfInBounds,List.take_set]
theorem row_blk {w : World} {B k n c g : Nat} {e : TypeId} {xs : List Value} (h : w.ownsRow B e k (.slice (some ⟨g,0,none⟩) n c) n xs) : ∃ cur,Blk g cur e w /\ B <= g /\ g < w.heap.size:=by
 rcases h.2 with ⟨hv,_⟩ | ⟨g',cap,cur,hv,r2,r3,r4⟩
 ·cases hv
 ·cases hv;exact ⟨cur,r3,r2,(show Blk g cur e w from r3).lt⟩
def sL (xs : List Ses) : List Value:=xs.flatMap fun s => (sesCells s).toList
theorem sL_cons (s : Ses) (r : List Ses) : sL (s :: r) = (sesCells s).toList ++ sL r:=rfl
theorem sL_app (a b : List Ses) : sL (a ++ b) = sL a ++ sL b:=by unfold sL;simp
theorem sL_one (s : Ses) : sL [s] = (sesCells s).toList:=by unfold sL;simp
theorem sL_get : ∀ (xs : List Ses) (j i : Nat) (s : Ses),xs[j]? = some s -> i < 6 -> (sL xs)[j * 6 + i]? = (sesCells s).toList[i]?
 | [],_,_,_,h,_ => by simp at h
 | t :: r,0,i,s,h,hi => by
  simp at h;subst h;rw [sL_cons,show 0 * 6 + i = i by omega,List.getElem?_append_left (show i < 6 from hi)]
 | t :: r,j + 1,i,s,h,hi => by
  rw [sL_cons,List.getElem?_append_right (show 6 <= (j + 1) * 6 + i by omega)];have : (j + 1) * 6 + i - (sesCells t).toList.length = j * 6 + i:=by show _ - 6 = _;omega
  rw [this];exact sL_get r j i s (by simpa using h) hi
theorem sL_set : ∀ (xs : List Ses) (k o : Nat) (t t' : Ses) (u : Value),xs[k]? = some t -> o < 6 -> (sesCells t').toList = (sesCells t).toList.set o u -> sL (xs.set k t') = (sL xs).set (k * 6 + o) u
 | [],_,_,_,_,_,h,_,_ => by simp at h
 | t0 :: r,0,o,t,t',u,h,ho,hc => by
  simp at h;subst h;show (sesCells t').toList ++ sL r = ((sesCells t0).toList ++ sL r).set (0 * 6 + o) u
  rw [hc,show 0 * 6 + o = o by omega,List.set_append_left _ _ (show o < 6 from ho)]
 | t0 :: r,k + 1,o,t,t',u,h,ho,hc => by
  have ih:=sL_set r k o t t' u (by simpa using h) ho hc;show (sesCells t0).toList ++ sL (r.set k t') = ((sesCells t0).toList ++ sL r).set ((k + 1) * 6 + o) u
  rw [ih,List.set_append_right _ _ (show 6 <= (k + 1) * 6 + o by omega),show (k + 1) * 6 + o - (sesCells t0).toList.length = k * 6 + o by show _ - 6 = _;omega]
theorem sL_cell1 (s : Ses) : ∀ u ∈ (sesCells s).toList,u.oneCell' = true:=by
 intro u hu;simp [sesCells] at hu;rcases hu with rfl | rfl | rfl | rfl | rfl | rfl <;> rfl
theorem sL_cells1 (xs : List Ses) : ∀ u ∈ sL xs,u.oneCell' = true:=by
 intro u hu;obtain ⟨s, -,h2⟩:=List.mem_flatMap.1 hu;exact sL_cell1 s u h2
def RowS (lo : Nat) (w : World) (v : Value) (xs : List Ses) : Prop:=w.ownsRow lo 107 6 v xs.length (sL xs)
theorem RowS.nil (lo : Nat) (w : World) : RowS lo w (.slice none 0 0) []:=World.ownsRow_nil _ _ _ _
theorem RowS.slice {lo : Nat} {w : World} {v : Value} {xs : List Ses} (h : RowS lo w v xs) : ∃ ao c,v = .slice ao xs.length c:=ownsRow_len h
theorem RowS.form {lo : Nat} {w : World} {v : Value} {xs : List Ses} (h : RowS lo w v xs) (hp : 0 < xs.length) : ∃ g c,v = .slice (some ⟨g,0,none⟩) xs.length c /\ lo <= g:=by
 rcases h.2 with ⟨_,h0⟩ | ⟨g,cap,cur,hv,hlo,_⟩
 ·omega
 ·exact ⟨g,cap,hv,hlo⟩
theorem RowS.snoc {lo : Nat} {w : World} {v : Value} {xs : List Ses} {s : Ses} (h : w.ownsRow lo 107 6 v (xs.length + 1) (sL xs ++ (sesCells s).toList)) : RowS lo w v (xs ++ [s]):=by
 unfold RowS;rw [List.length_append,sL_app,sL_one];exact h
theorem RowS.cell {w : World} {lo n c g : Nat} {xs : List Ses} (h : RowS lo w (.slice (some ⟨g,0,none⟩) n c) xs) (k o : Nat) (s : Ses) (u : Value) (hs : xs[k]? = some s) (ho : o < 6) (hu : (sesCells s).toList[o]? = some u) : w.cell? ⟨g,k * 6 + o,none⟩ = some u:=by
 obtain ⟨ao,c',hv⟩:=h.slice;have hn : n = xs.length:=by injection hv
 subst hn;have:=World.ownsRow.cells h (g:=g) rfl (k * 6 + o) u (by rw [sL_get xs k o s hs ho];exact hu);rw [Addr.add_lit] at this;simpa using this
theorem RowS.frz {w : World} {lo n c g : Nat} {xs : List Ses} (h : RowS lo w (.slice (some ⟨g,0,none⟩) n c) xs) (i : Nat) : w.frozen? ⟨g,i,none⟩ = false:=by
 obtain ⟨ao,c',hv⟩:=h.slice;have hn : n = xs.length:=by injection hv
 subst hn;obtain ⟨cur,hb,_⟩:=row_blk h;exact hb.frozen i
theorem RowS.put {w : World} {lo n c g : Nat} {xs : List Ses} (h : RowS lo w (.slice (some ⟨g,0,none⟩) n c) xs) (k o : Nat) (t t' : Ses) (u : Value) (ht : xs[k]? = some t) (ho : o < 6) (hc : (sesCells t').toList = (sesCells t).toList.set o u) : RowS lo (w.setCell ⟨g,k * 6 + o,none⟩ u) (.slice (some ⟨g,0,none⟩) n c) (xs.set k t'):=by
 obtain ⟨ao,c',hv⟩:=h.slice;have hn : n = xs.length:=by injection hv
 subst hn;have h1:=row_put h (k * 6 + o) u;unfold RowS;rw [List.length_set,sL_set xs k o t t' u ht ho hc];exact h1
theorem RowS.mono {lo lo' : Nat} {w : World} {v : Value} {xs : List Ses} (h : RowS lo w v xs) (hl : lo' <= lo) : RowS lo' w v xs:=ownsRow_mono h hl
theorem infoSes : (Tryz.prog.info? 107).map (fun i => (i.zero,i.size,i.bytes)) = some (some (.agg #[.string ⟨#[]⟩,.int .i64 0,.int .i64 0,.int .i64 0,.int .i64 0,.string ⟨#[]⟩]),6,64):=by kernel_rfl
theorem infoSl : (Tryz.prog.info? 110).map (fun i => (i.zero,i.size,i.bytes)) = some (some (.slice none 0 0),1,24):=by kernel_rfl
def putG (s : Ses) : Bool -> List Ses -> List Ses
 | dn,[] => if dn = true then [] else [s]
 | dn,x :: r => (if (dn || Op.bytesLess x.cls.toList s.cls.toList) = true then [] else [s]) ++ ((if (x.cls.toList == s.cls.toList) = true then [] else [x]) ++ putG s (dn || !Op.bytesLess x.cls.toList s.cls.toList) r)
theorem putG_next {s t : Ses} {xs : List Ses} {k : Nat} {dn lb eb : Bool} (h : xs[k]? = some t) (hl : Op.bytesLess t.cls.toList s.cls.toList = lb) (he : (t.cls.toList == s.cls.toList) = eb) : putG s dn (xs.drop k) = (if (dn || lb) = true then [] else [s]) ++ ((if eb = true then [] else [t]) ++ putG s (dn || !lb) (xs.drop (k + 1))):=by
 obtain ⟨h1,h2⟩:=List.getElem?_eq_some_iff.1 h;rw [List.drop_eq_getElem_cons h1,h2,putG,hl,he]
theorem putG_end (s : Ses) (dn : Bool) (xs : List Ses) : putG s dn (xs.drop xs.length) = if dn = true then [] else [s]:=by rw [List.drop_length,putG]
set_option maxHeartbeats 8000000 in
set_option maxRecDepth 100000 in
theorem put123v (lo : Nat) (xs : List Ses) (ao : Option Addr) (c : Nat) (s : Ses) (aw : Bool) (w : World) (hX : RowS lo w (.slice ao xs.length c) xs) (hl : xs.length <= 100000) : Calls Tryz.prog 123 #[.slice ao xs.length c,sesVal s,.bool aw] w fun e w' => ∃ u : Value,e = .returned u /\ RowS w.heap.size w' u (putG s aw xs) /\ (putG s aw xs).length <= xs.length + 1 /\ Below w.heap.size w w':=by
 obtain ⟨i0,hii,hz0,hz1,hz2⟩:=info_parts infoSes;obtain ⟨P,hP⟩ : ∃ g,g = w.heap.size:=⟨_,rfl⟩
 obtain ⟨w0,hw0⟩ : ∃ X,X = w.alloc (.cells #[.string s.cls,.int .i64 s.tim.weeks,.int .i64 s.tim.day,.int .i64 s.tim.start,.int .i64 s.tim.len,.string s.room] 107):=⟨_,rfl⟩
 have HB0:=Lh (show Below w.heap.size w w0 from by rw [hw0];exact below_box w _);have HP0:=Lh (show Blk P #[.string s.cls,.int .i64 s.tim.weeks,.int .i64 s.tim.day,.int .i64 s.tim.start,.int .i64 s.tim.len,.string s.room] 107 w0 from by rw [hw0,hP];exact Blk.new w _ _);have HPW:=Lh (show w.heap.size <= P by omega);have hPlt : P < w0.heap.size:=HP0.out.lt;have hws:=HB0.out.size;have HX:=Lh hX;obtain ⟨n,hn⟩ : ∃ n,n = xs.length:=⟨_,rfl⟩
 rw [<- hn] at HX hl ⊢;have HN:=Lh hn;clear hX hn;unfold sesVal sesCells;go_enter Tryz.func123,Tryz.ntmps123;go_upto_region 1 with (fail);rw [<- hw0,<- hP];clear hw0 hP;go_wp2_with fail;go_loopw [7,8,9] (fun uv dv iv wr => ∃ (k : Nat) (dn : Bool) (ys : List Ses),dv = .bool dn /\ iv = .int .i64 k /\ k <= n /\ ys.length <= k + (if dn = true then 1 else 0) /\ Hid (ys ++ putG s dn (xs.drop k) = putG s aw xs) /\ Hid (RowS w0.heap.size wr uv ys) /\ Hid (Below w0.heap.size w0 wr)) (fun _ _ iv _ => n - (intOf iv).toNat)
 case atStart => exact ⟨0,aw,[],rfl,rfl,Nat.zero_le _,Nat.zero_le _,Lh rfl,Lh (RowS.nil _ _),Lh (Below.refl _ _)⟩
 case round =>
  obtain ⟨k,dn,ys,rfl,rfl,hk,hyl,HG,HY,HB⟩:=hrel;have p0 : wr.cell? ⟨P,0,none⟩ = some (.string s.cls):=(HP0.out.below HB.out hPlt).cell 0;have p1 : wr.cell? ⟨P,1,none⟩ = some (.int .i64 s.tim.weeks):=(HP0.out.below HB.out hPlt).cell 1;have p2 : wr.cell? ⟨P,2,none⟩ = some (.int .i64 s.tim.day):=(HP0.out.below HB.out hPlt).cell 2;have p3 : wr.cell? ⟨P,3,none⟩ = some (.int .i64 s.tim.start):=(HP0.out.below HB.out hPlt).cell 3;have p4 : wr.cell? ⟨P,4,none⟩ = some (.int .i64 s.tim.len):=(HP0.out.below HB.out hPlt).cell 4;have p5 : wr.cell? ⟨P,5,none⟩ = some (.string s.room):=(HP0.out.below HB.out hPlt).cell 5;by_cases hlt : k < n
  rotate_left
  ·have hki : ¬ (k : Int) < (n : Int):=by omega
   cases dn with
   | true =>
    have hyl : ys.length <= n + 1:=by have : ys.length <= k + 1:=hyl;omega
    have HE:=Lh (show ys = putG s aw xs from by have h:=HG.out;rw [show k = xs.length by have:=HN.out;omega,putG_end] at h;simpa using h);have HYE:=Lh (show RowS w0.heap.size _ _ (putG s aw xs) from by rw [<- HE.out];exact HY.out);have HLE:=Lh (show (putG s aw xs).length <= n + 1 from by rw [<- HE.out];first | omega | (rw [List.length_append];simp;omega));go_wp2_with fail;go_ret;first | exact ⟨_,rfl,RowS.mono HYE.out hws,HLE.out,HB0.out.trans (HB.out.mono hws)⟩ | exact ⟨RowS.mono HYE.out hws,HLE.out,HB0.out.trans (HB.out.mono hws)⟩
   | false =>
    have hyl : ys.length <= n:=by have : ys.length <= k:=hyl;omega
    have HYL:=Lh hyl;obtain ⟨pu,cu,hu⟩:=HY.out.slice;subst hu;go_wp2_with (at_builtin;refine wpList_append_own_at _ rfl (.tmp 50) (.tmp 52) 110 rfl w0.heap.size 107 i0 _ 6 64 Tryz.underlying110 hii hz0 hz1 hz2 rfl (by decide) _ _ _ rfl (World.ownsRow.alloc HY.out _) ⟨wr.heap.size,0,none⟩ 1 1 (sesCells s).toList rfl rfl (blk_cells (Blk.new wr (sesCells s) 107)) (sL_cell1 s) (by unfold maxLen;omega) (by omega) (by have:=HB.out.size;simp;omega) ?_);intro v8 x8 hown8 hgrow _ hat;have HB8:=Lh (below_grownBy (HB.out.trans ((below_box wr _).mono HB.out.size)) (World.ownsRow.alloc HY.out _) (Nat.le_refl _) (by have:=HB.out.size;simp;omega) hgrow);have HX8:=Lh (show RowS w0.heap.size x8 v8 (ys ++ [s]) from RowS.snoc hown8);clear hown8 hgrow hat;clear p0 p1 p2 p3 p4 p5;have HE:=Lh (show ys ++ [s] = putG s aw xs from by have h:=HG.out;rw [show k = xs.length by have:=HN.out;omega,putG_end] at h;simpa using h);have HYE:=Lh (show RowS w0.heap.size _ _ (putG s aw xs) from by rw [<- HE.out];exact HX8.out);have HLE:=Lh (show (putG s aw xs).length <= n + 1 from by rw [<- HE.out];first | omega | (rw [List.length_append];simp;omega));go_wp2_with fail;go_ret;first | exact ⟨_,rfl,RowS.mono HYE.out hws,HLE.out,HB0.out.trans (HB8.out.mono hws)⟩ | exact ⟨RowS.mono HYE.out hws,HLE.out,HB0.out.trans (HB8.out.mono hws)⟩
  have hki : (k : Int) < (n : Int):=by omega
  have hk0 : (0 : Int) <= (k : Int):=by omega
  obtain ⟨t,ht⟩ : ∃ t,xs[k]? = some t:=⟨_,List.getElem?_eq_getElem (by have:=HN.out;omega)⟩
  have HXn:=Lh (show RowS lo w (.slice ao xs.length c) xs from by have h:=HX.out;rw [HN.out] at h;exact h);obtain ⟨g,cg,hg, -⟩:=HXn.out.form (by have:=HN.out;omega);have hao : ao = some ⟨g,0,none⟩:=by injection hg
  subst hao;have hgw : g < w.heap.size:=(World.ownsRow.lt HX.out g rfl).2;have q0 : wr.cell? ⟨g,k * 6 + 0,none⟩ = some (.string t.cls):=((HB0.out.trans (HB.out.mono hws)).cell (p:=⟨g,k * 6 + 0,none⟩) hgw).trans (HX.out.cell k 0 t _ ht (by decide) rfl);have q1 : wr.cell? ⟨g,k * 6 + 1,none⟩ = some (.int .i64 t.tim.weeks):=((HB0.out.trans (HB.out.mono hws)).cell (p:=⟨g,k * 6 + 1,none⟩) hgw).trans (HX.out.cell k 1 t _ ht (by decide) rfl);have q2 : wr.cell? ⟨g,k * 6 + 2,none⟩ = some (.int .i64 t.tim.day):=((HB0.out.trans (HB.out.mono hws)).cell (p:=⟨g,k * 6 + 2,none⟩) hgw).trans (HX.out.cell k 2 t _ ht (by decide) rfl);have q3 : wr.cell? ⟨g,k * 6 + 3,none⟩ = some (.int .i64 t.tim.start):=((HB0.out.trans (HB.out.mono hws)).cell (p:=⟨g,k * 6 + 3,none⟩) hgw).trans (HX.out.cell k 3 t _ ht (by decide) rfl);have q4 : wr.cell? ⟨g,k * 6 + 4,none⟩ = some (.int .i64 t.tim.len):=((HB0.out.trans (HB.out.mono hws)).cell (p:=⟨g,k * 6 + 4,none⟩) hgw).trans (HX.out.cell k 4 t _ ht (by decide) rfl);have q5 : wr.cell? ⟨g,k * 6 + 5,none⟩ = some (.string t.room):=((HB0.out.trans (HB.out.mono hws)).cell (p:=⟨g,k * 6 + 5,none⟩) hgw).trans (HX.out.cell k 5 t _ ht (by decide) rfl);have q0 : wr.cell? ⟨g,k * 6,none⟩ = some (.string t.cls):=q0;obtain ⟨lb,hlb⟩ : ∃ b,Op.bytesLess t.cls.toList s.cls.toList = b:=⟨_,rfl⟩
  obtain ⟨eb,heb⟩ : ∃ b,(t.cls.toList == s.cls.toList) = b:=⟨_,rfl⟩
  have HT:=Lh ht;clear ht HXn hg;have HLT:=Lh hlt;have HLB:=Lh hlb;have HEB:=Lh heb;cases dn with
  | true =>
   have hyl2 : ys.length <= k + 1:=hyl;clear hyl;have HGx:=Lh (show ys ++ ((if eb = true then [] else [t]) ++ putG s true (xs.drop (k + 1))) = putG s aw xs from by have h:=HG.out;rw [putG_next HT.out HLB.out HEB.out] at h;simpa using h);go_wp2_with fail;go_quiet (fail)
   obtain ⟨wy,hq⟩ : ∃ X,X = wr.drewN nq:=⟨_,rfl⟩
   have HY_wy:=Lh (show RowS w0.heap.size wy _ (ys) from by rw [hq];exact HY.out);have HB_wy:=Lh (show Below w0.heap.size w0 wy from by rw [hq];exact HB.out.trans ⟨rfl,rfl,rfl,Nat.le_refl _,fun k hk => rfl⟩);rw [<- hq];clear hq nq;clear p0 p1 p2 p3 p4 p5;clear q0 q1 q2 q3 q4 q5;have p0 : wy.cell? ⟨P,0,none⟩ = some (.string s.cls):=(HP0.out.below HB_wy.out hPlt).cell 0;have p1 : wy.cell? ⟨P,1,none⟩ = some (.int .i64 s.tim.weeks):=(HP0.out.below HB_wy.out hPlt).cell 1;have p2 : wy.cell? ⟨P,2,none⟩ = some (.int .i64 s.tim.day):=(HP0.out.below HB_wy.out hPlt).cell 2;have p3 : wy.cell? ⟨P,3,none⟩ = some (.int .i64 s.tim.start):=(HP0.out.below HB_wy.out hPlt).cell 3;have p4 : wy.cell? ⟨P,4,none⟩ = some (.int .i64 s.tim.len):=(HP0.out.below HB_wy.out hPlt).cell 4;have p5 : wy.cell? ⟨P,5,none⟩ = some (.string s.room):=(HP0.out.below HB_wy.out hPlt).cell 5;have q0 : wy.cell? ⟨g,k * 6 + 0,none⟩ = some (.string t.cls):=((HB0.out.trans (HB_wy.out.mono hws)).cell (p:=⟨g,k * 6 + 0,none⟩) hgw).trans (HX.out.cell k 0 t _ HT.out (by decide) rfl);have q1 : wy.cell? ⟨g,k * 6 + 1,none⟩ = some (.int .i64 t.tim.weeks):=((HB0.out.trans (HB_wy.out.mono hws)).cell (p:=⟨g,k * 6 + 1,none⟩) hgw).trans (HX.out.cell k 1 t _ HT.out (by decide) rfl);have q2 : wy.cell? ⟨g,k * 6 + 2,none⟩ = some (.int .i64 t.tim.day):=((HB0.out.trans (HB_wy.out.mono hws)).cell (p:=⟨g,k * 6 + 2,none⟩) hgw).trans (HX.out.cell k 2 t _ HT.out (by decide) rfl);have q3 : wy.cell? ⟨g,k * 6 + 3,none⟩ = some (.int .i64 t.tim.start):=((HB0.out.trans (HB_wy.out.mono hws)).cell (p:=⟨g,k * 6 + 3,none⟩) hgw).trans (HX.out.cell k 3 t _ HT.out (by decide) rfl);have q4 : wy.cell? ⟨g,k * 6 + 4,none⟩ = some (.int .i64 t.tim.len):=((HB0.out.trans (HB_wy.out.mono hws)).cell (p:=⟨g,k * 6 + 4,none⟩) hgw).trans (HX.out.cell k 4 t _ HT.out (by decide) rfl);have q5 : wy.cell? ⟨g,k * 6 + 5,none⟩ = some (.string t.room):=((HB0.out.trans (HB_wy.out.mono hws)).cell (p:=⟨g,k * 6 + 5,none⟩) hgw).trans (HX.out.cell k 5 t _ HT.out (by decide) rfl);have q0 : wy.cell? ⟨g,k * 6,none⟩ = some (.string t.cls):=q0;go_wp2_with fail;go_quiet (fail)
   obtain ⟨wz,hq⟩ : ∃ X,X = wy.drewN nq:=⟨_,rfl⟩
   have HY_wz:=Lh (show RowS w0.heap.size wz _ (ys) from by rw [hq];exact HY_wy.out);have HB_wz:=Lh (show Below w0.heap.size w0 wz from by rw [hq];exact HB_wy.out.trans ⟨rfl,rfl,rfl,Nat.le_refl _,fun k hk => rfl⟩);rw [<- hq];clear hq nq;clear p0 p1 p2 p3 p4 p5;clear q0 q1 q2 q3 q4 q5;have p0 : wz.cell? ⟨P,0,none⟩ = some (.string s.cls):=(HP0.out.below HB_wz.out hPlt).cell 0;have p1 : wz.cell? ⟨P,1,none⟩ = some (.int .i64 s.tim.weeks):=(HP0.out.below HB_wz.out hPlt).cell 1;have p2 : wz.cell? ⟨P,2,none⟩ = some (.int .i64 s.tim.day):=(HP0.out.below HB_wz.out hPlt).cell 2;have p3 : wz.cell? ⟨P,3,none⟩ = some (.int .i64 s.tim.start):=(HP0.out.below HB_wz.out hPlt).cell 3;have p4 : wz.cell? ⟨P,4,none⟩ = some (.int .i64 s.tim.len):=(HP0.out.below HB_wz.out hPlt).cell 4;have p5 : wz.cell? ⟨P,5,none⟩ = some (.string s.room):=(HP0.out.below HB_wz.out hPlt).cell 5;have q0 : wz.cell? ⟨g,k * 6 + 0,none⟩ = some (.string t.cls):=((HB0.out.trans (HB_wz.out.mono hws)).cell (p:=⟨g,k * 6 + 0,none⟩) hgw).trans (HX.out.cell k 0 t _ HT.out (by decide) rfl);have q1 : wz.cell? ⟨g,k * 6 + 1,none⟩ = some (.int .i64 t.tim.weeks):=((HB0.out.trans (HB_wz.out.mono hws)).cell (p:=⟨g,k * 6 + 1,none⟩) hgw).trans (HX.out.cell k 1 t _ HT.out (by decide) rfl);have q2 : wz.cell? ⟨g,k * 6 + 2,none⟩ = some (.int .i64 t.tim.day):=((HB0.out.trans (HB_wz.out.mono hws)).cell (p:=⟨g,k * 6 + 2,none⟩) hgw).trans (HX.out.cell k 2 t _ HT.out (by decide) rfl);have q3 : wz.cell? ⟨g,k * 6 + 3,none⟩ = some (.int .i64 t.tim.start):=((HB0.out.trans (HB_wz.out.mono hws)).cell (p:=⟨g,k * 6 + 3,none⟩) hgw).trans (HX.out.cell k 3 t _ HT.out (by decide) rfl);have q4 : wz.cell? ⟨g,k * 6 + 4,none⟩ = some (.int .i64 t.tim.len):=((HB0.out.trans (HB_wz.out.mono hws)).cell (p:=⟨g,k * 6 + 4,none⟩) hgw).trans (HX.out.cell k 4 t _ HT.out (by decide) rfl);have q5 : wz.cell? ⟨g,k * 6 + 5,none⟩ = some (.string t.room):=((HB0.out.trans (HB_wz.out.mono hws)).cell (p:=⟨g,k * 6 + 5,none⟩) hgw).trans (HX.out.cell k 5 t _ HT.out (by decide) rfl);have q0 : wz.cell? ⟨g,k * 6,none⟩ = some (.string t.cls):=q0;cases eb
   ·have HYL:=Lh hyl2;have HG2:=Lh (show (ys ++ [t]) ++ putG s true (xs.drop (k + 1)) = putG s aw xs from by simpa using HGx.out);obtain ⟨pu,cu,hu⟩:=HY_wz.out.slice;subst hu;go_wp2_with (at_builtin;refine wpList_append_own_at _ rfl (.tmp 41) (.tmp 46) 110 rfl w0.heap.size 107 i0 _ 6 64 Tryz.underlying110 hii hz0 hz1 hz2 rfl (by decide) _ _ _ rfl (World.ownsRow.alloc HY_wz.out _) ⟨wz.heap.size,0,none⟩ 1 1 (sesCells t).toList rfl rfl (blk_cells (Blk.new wz (sesCells t) 107)) (sL_cell1 t) (by unfold maxLen;omega) (by omega) (by have:=HB_wz.out.size;simp;omega) ?_);intro v8 x8 hown8 hgrow _ hat;have HB8:=Lh (below_grownBy (HB_wz.out.trans ((below_box wz _).mono HB_wz.out.size)) (World.ownsRow.alloc HY_wz.out _) (Nat.le_refl _) (by have:=HB_wz.out.size;simp;omega) hgrow);have HX8:=Lh (show RowS w0.heap.size x8 v8 (ys ++ [t]) from RowS.snoc hown8);clear hown8 hgrow hat;clear p0 p1 p2 p3 p4 p5;clear q0 q1 q2 q3 q4 q5;go_wp2_with fail;go_roundw
    case rel => exact ⟨k + 1,true,ys ++ [t],rfl,by go_num,by have:=HLT.out;omega,by rw [List.length_append];simp;have:=HYL.out;first | omega | (simp at this;omega),HG2,HX8,HB8⟩
    case measure => simp [intOf];omega
   ·have HYL:=Lh hyl2;have HG2:=Lh (show ys ++ putG s true (xs.drop (k + 1)) = putG s aw xs from by simpa using HGx.out);go_wp2_with fail;go_roundw
    case rel => exact ⟨k + 1,true,ys,rfl,by go_num,by have:=HLT.out;omega,by have:=HYL.out;first | omega | (simp at this ⊢;omega),HG2,HY_wz,HB_wz⟩
    case measure => simp [intOf];omega
  | false =>
   have hyl2 : ys.length <= k:=hyl;clear hyl;cases lb;rotate_left
   ·have HGx:=Lh (show ys ++ ((if eb = true then [] else [t]) ++ putG s false (xs.drop (k + 1))) = putG s aw xs from by have h:=HG.out;rw [putG_next HT.out HLB.out HEB.out] at h;simpa using h);go_wp2_with fail;go_quiet (fail);obtain ⟨wy,hq⟩ : ∃ X,X = wr.drewN nq:=⟨_,rfl⟩
    have HY_wy:=Lh (show RowS w0.heap.size wy _ (ys) from by rw [hq];exact HY.out);have HB_wy:=Lh (show Below w0.heap.size w0 wy from by rw [hq];exact HB.out.trans ⟨rfl,rfl,rfl,Nat.le_refl _,fun k hk => rfl⟩);rw [<- hq];clear hq nq;clear p0 p1 p2 p3 p4 p5;clear q0 q1 q2 q3 q4 q5;have p0 : wy.cell? ⟨P,0,none⟩ = some (.string s.cls):=(HP0.out.below HB_wy.out hPlt).cell 0;have p1 : wy.cell? ⟨P,1,none⟩ = some (.int .i64 s.tim.weeks):=(HP0.out.below HB_wy.out hPlt).cell 1;have p2 : wy.cell? ⟨P,2,none⟩ = some (.int .i64 s.tim.day):=(HP0.out.below HB_wy.out hPlt).cell 2;have p3 : wy.cell? ⟨P,3,none⟩ = some (.int .i64 s.tim.start):=(HP0.out.below HB_wy.out hPlt).cell 3;have p4 : wy.cell? ⟨P,4,none⟩ = some (.int .i64 s.tim.len):=(HP0.out.below HB_wy.out hPlt).cell 4;have p5 : wy.cell? ⟨P,5,none⟩ = some (.string s.room):=(HP0.out.below HB_wy.out hPlt).cell 5;have q0 : wy.cell? ⟨g,k * 6 + 0,none⟩ = some (.string t.cls):=((HB0.out.trans (HB_wy.out.mono hws)).cell (p:=⟨g,k * 6 + 0,none⟩) hgw).trans (HX.out.cell k 0 t _ HT.out (by decide) rfl);have q1 : wy.cell? ⟨g,k * 6 + 1,none⟩ = some (.int .i64 t.tim.weeks):=((HB0.out.trans (HB_wy.out.mono hws)).cell (p:=⟨g,k * 6 + 1,none⟩) hgw).trans (HX.out.cell k 1 t _ HT.out (by decide) rfl);have q2 : wy.cell? ⟨g,k * 6 + 2,none⟩ = some (.int .i64 t.tim.day):=((HB0.out.trans (HB_wy.out.mono hws)).cell (p:=⟨g,k * 6 + 2,none⟩) hgw).trans (HX.out.cell k 2 t _ HT.out (by decide) rfl);have q3 : wy.cell? ⟨g,k * 6 + 3,none⟩ = some (.int .i64 t.tim.start):=((HB0.out.trans (HB_wy.out.mono hws)).cell (p:=⟨g,k * 6 + 3,none⟩) hgw).trans (HX.out.cell k 3 t _ HT.out (by decide) rfl);have q4 : wy.cell? ⟨g,k * 6 + 4,none⟩ = some (.int .i64 t.tim.len):=((HB0.out.trans (HB_wy.out.mono hws)).cell (p:=⟨g,k * 6 + 4,none⟩) hgw).trans (HX.out.cell k 4 t _ HT.out (by decide) rfl);have q5 : wy.cell? ⟨g,k * 6 + 5,none⟩ = some (.string t.room):=((HB0.out.trans (HB_wy.out.mono hws)).cell (p:=⟨g,k * 6 + 5,none⟩) hgw).trans (HX.out.cell k 5 t _ HT.out (by decide) rfl);have q0 : wy.cell? ⟨g,k * 6,none⟩ = some (.string t.cls):=q0;go_wp2_with fail;go_quiet (fail)
    obtain ⟨wz,hq⟩ : ∃ X,X = wy.drewN nq:=⟨_,rfl⟩
    have HY_wz:=Lh (show RowS w0.heap.size wz _ (ys) from by rw [hq];exact HY_wy.out);have HB_wz:=Lh (show Below w0.heap.size w0 wz from by rw [hq];exact HB_wy.out.trans ⟨rfl,rfl,rfl,Nat.le_refl _,fun k hk => rfl⟩);rw [<- hq];clear hq nq;clear p0 p1 p2 p3 p4 p5;clear q0 q1 q2 q3 q4 q5;have p0 : wz.cell? ⟨P,0,none⟩ = some (.string s.cls):=(HP0.out.below HB_wz.out hPlt).cell 0;have p1 : wz.cell? ⟨P,1,none⟩ = some (.int .i64 s.tim.weeks):=(HP0.out.below HB_wz.out hPlt).cell 1;have p2 : wz.cell? ⟨P,2,none⟩ = some (.int .i64 s.tim.day):=(HP0.out.below HB_wz.out hPlt).cell 2;have p3 : wz.cell? ⟨P,3,none⟩ = some (.int .i64 s.tim.start):=(HP0.out.below HB_wz.out hPlt).cell 3;have p4 : wz.cell? ⟨P,4,none⟩ = some (.int .i64 s.tim.len):=(HP0.out.below HB_wz.out hPlt).cell 4;have p5 : wz.cell? ⟨P,5,none⟩ = some (.string s.room):=(HP0.out.below HB_wz.out hPlt).cell 5;have q0 : wz.cell? ⟨g,k * 6 + 0,none⟩ = some (.string t.cls):=((HB0.out.trans (HB_wz.out.mono hws)).cell (p:=⟨g,k * 6 + 0,none⟩) hgw).trans (HX.out.cell k 0 t _ HT.out (by decide) rfl);have q1 : wz.cell? ⟨g,k * 6 + 1,none⟩ = some (.int .i64 t.tim.weeks):=((HB0.out.trans (HB_wz.out.mono hws)).cell (p:=⟨g,k * 6 + 1,none⟩) hgw).trans (HX.out.cell k 1 t _ HT.out (by decide) rfl);have q2 : wz.cell? ⟨g,k * 6 + 2,none⟩ = some (.int .i64 t.tim.day):=((HB0.out.trans (HB_wz.out.mono hws)).cell (p:=⟨g,k * 6 + 2,none⟩) hgw).trans (HX.out.cell k 2 t _ HT.out (by decide) rfl);have q3 : wz.cell? ⟨g,k * 6 + 3,none⟩ = some (.int .i64 t.tim.start):=((HB0.out.trans (HB_wz.out.mono hws)).cell (p:=⟨g,k * 6 + 3,none⟩) hgw).trans (HX.out.cell k 3 t _ HT.out (by decide) rfl);have q4 : wz.cell? ⟨g,k * 6 + 4,none⟩ = some (.int .i64 t.tim.len):=((HB0.out.trans (HB_wz.out.mono hws)).cell (p:=⟨g,k * 6 + 4,none⟩) hgw).trans (HX.out.cell k 4 t _ HT.out (by decide) rfl);have q5 : wz.cell? ⟨g,k * 6 + 5,none⟩ = some (.string t.room):=((HB0.out.trans (HB_wz.out.mono hws)).cell (p:=⟨g,k * 6 + 5,none⟩) hgw).trans (HX.out.cell k 5 t _ HT.out (by decide) rfl);have q0 : wz.cell? ⟨g,k * 6,none⟩ = some (.string t.cls):=q0;cases eb
    ·have HYL:=Lh hyl2;have HG2:=Lh (show (ys ++ [t]) ++ putG s false (xs.drop (k + 1)) = putG s aw xs from by simpa using HGx.out);obtain ⟨pu,cu,hu⟩:=HY_wz.out.slice;subst hu;go_wp2_with (at_builtin;refine wpList_append_own_at _ rfl (.tmp 41) (.tmp 46) 110 rfl w0.heap.size 107 i0 _ 6 64 Tryz.underlying110 hii hz0 hz1 hz2 rfl (by decide) _ _ _ rfl (World.ownsRow.alloc HY_wz.out _) ⟨wz.heap.size,0,none⟩ 1 1 (sesCells t).toList rfl rfl (blk_cells (Blk.new wz (sesCells t) 107)) (sL_cell1 t) (by unfold maxLen;omega) (by omega) (by have:=HB_wz.out.size;simp;omega) ?_);intro v8 x8 hown8 hgrow _ hat;have HB8:=Lh (below_grownBy (HB_wz.out.trans ((below_box wz _).mono HB_wz.out.size)) (World.ownsRow.alloc HY_wz.out _) (Nat.le_refl _) (by have:=HB_wz.out.size;simp;omega) hgrow);have HX8:=Lh (show RowS w0.heap.size x8 v8 (ys ++ [t]) from RowS.snoc hown8);clear hown8 hgrow hat;clear p0 p1 p2 p3 p4 p5;clear q0 q1 q2 q3 q4 q5;go_wp2_with fail;go_roundw
     case rel => exact ⟨k + 1,false,ys ++ [t],rfl,by go_num,by have:=HLT.out;omega,by rw [List.length_append];simp;have:=HYL.out;first | omega | (simp at this;omega),HG2,HX8,HB8⟩
     case measure => simp [intOf];omega
    ·have HYL:=Lh hyl2;have HG2:=Lh (show ys ++ putG s false (xs.drop (k + 1)) = putG s aw xs from by simpa using HGx.out);go_wp2_with fail;go_roundw
     case rel => exact ⟨k + 1,false,ys,rfl,by go_num,by have:=HLT.out;omega,by have:=HYL.out;first | omega | (simp at this ⊢;omega),HG2,HY_wz,HB_wz⟩
     case measure => simp [intOf];omega
   ·have HGx:=Lh (show (ys ++ [s]) ++ ((if eb = true then [] else [t]) ++ putG s true (xs.drop (k + 1))) = putG s aw xs from by have h:=HG.out;rw [putG_next HT.out HLB.out HEB.out] at h;simpa using h);go_wp2_with fail;go_quiet (fail);obtain ⟨wy,hq⟩ : ∃ X,X = wr.drewN nq:=⟨_,rfl⟩
    have HY_wy:=Lh (show RowS w0.heap.size wy _ (ys) from by rw [hq];exact HY.out);have HB_wy:=Lh (show Below w0.heap.size w0 wy from by rw [hq];exact HB.out.trans ⟨rfl,rfl,rfl,Nat.le_refl _,fun k hk => rfl⟩);rw [<- hq];clear hq nq;clear p0 p1 p2 p3 p4 p5;clear q0 q1 q2 q3 q4 q5;have p0 : wy.cell? ⟨P,0,none⟩ = some (.string s.cls):=(HP0.out.below HB_wy.out hPlt).cell 0;have p1 : wy.cell? ⟨P,1,none⟩ = some (.int .i64 s.tim.weeks):=(HP0.out.below HB_wy.out hPlt).cell 1;have p2 : wy.cell? ⟨P,2,none⟩ = some (.int .i64 s.tim.day):=(HP0.out.below HB_wy.out hPlt).cell 2;have p3 : wy.cell? ⟨P,3,none⟩ = some (.int .i64 s.tim.start):=(HP0.out.below HB_wy.out hPlt).cell 3;have p4 : wy.cell? ⟨P,4,none⟩ = some (.int .i64 s.tim.len):=(HP0.out.below HB_wy.out hPlt).cell 4;have p5 : wy.cell? ⟨P,5,none⟩ = some (.string s.room):=(HP0.out.below HB_wy.out hPlt).cell 5;obtain ⟨pu,cu,hu⟩:=HY_wy.out.slice;subst hu;go_wp2_with (at_builtin;refine wpList_append_own_at _ rfl (.tmp 29) (.tmp 31) 110 rfl w0.heap.size 107 i0 _ 6 64 Tryz.underlying110 hii hz0 hz1 hz2 rfl (by decide) _ _ _ rfl (World.ownsRow.alloc HY_wy.out _) ⟨wy.heap.size,0,none⟩ 1 1 (sesCells s).toList rfl rfl (blk_cells (Blk.new wy (sesCells s) 107)) (sL_cell1 s) (by unfold maxLen;omega) (by omega) (by have:=HB_wy.out.size;simp;omega) ?_);intro v8 x8 hown8 hgrow _ hat;have HB8:=Lh (below_grownBy (HB_wy.out.trans ((below_box wy _).mono HB_wy.out.size)) (World.ownsRow.alloc HY_wy.out _) (Nat.le_refl _) (by have:=HB_wy.out.size;simp;omega) hgrow);have HX8:=Lh (show RowS w0.heap.size x8 v8 (ys ++ [s]) from RowS.snoc hown8);clear hown8 hgrow hat;clear p0 p1 p2 p3 p4 p5;have hyl3 : (ys ++ [s]).length <= k + 1:=by rw [List.length_append];simp;omega
    clear hyl2;obtain ⟨zs,hzs⟩ : ∃ z,z = ys ++ [s]:=⟨_,rfl⟩
    rw [<- hzs] at HX8 hyl3 HGx;clear hzs;have hyl2:=hyl3;clear hyl3;have p0 : x8.cell? ⟨P,0,none⟩ = some (.string s.cls):=(HP0.out.below HB8.out hPlt).cell 0;have p1 : x8.cell? ⟨P,1,none⟩ = some (.int .i64 s.tim.weeks):=(HP0.out.below HB8.out hPlt).cell 1;have p2 : x8.cell? ⟨P,2,none⟩ = some (.int .i64 s.tim.day):=(HP0.out.below HB8.out hPlt).cell 2;have p3 : x8.cell? ⟨P,3,none⟩ = some (.int .i64 s.tim.start):=(HP0.out.below HB8.out hPlt).cell 3;have p4 : x8.cell? ⟨P,4,none⟩ = some (.int .i64 s.tim.len):=(HP0.out.below HB8.out hPlt).cell 4;have p5 : x8.cell? ⟨P,5,none⟩ = some (.string s.room):=(HP0.out.below HB8.out hPlt).cell 5;have q0 : x8.cell? ⟨g,k * 6 + 0,none⟩ = some (.string t.cls):=((HB0.out.trans (HB8.out.mono hws)).cell (p:=⟨g,k * 6 + 0,none⟩) hgw).trans (HX.out.cell k 0 t _ HT.out (by decide) rfl);have q1 : x8.cell? ⟨g,k * 6 + 1,none⟩ = some (.int .i64 t.tim.weeks):=((HB0.out.trans (HB8.out.mono hws)).cell (p:=⟨g,k * 6 + 1,none⟩) hgw).trans (HX.out.cell k 1 t _ HT.out (by decide) rfl);have q2 : x8.cell? ⟨g,k * 6 + 2,none⟩ = some (.int .i64 t.tim.day):=((HB0.out.trans (HB8.out.mono hws)).cell (p:=⟨g,k * 6 + 2,none⟩) hgw).trans (HX.out.cell k 2 t _ HT.out (by decide) rfl);have q3 : x8.cell? ⟨g,k * 6 + 3,none⟩ = some (.int .i64 t.tim.start):=((HB0.out.trans (HB8.out.mono hws)).cell (p:=⟨g,k * 6 + 3,none⟩) hgw).trans (HX.out.cell k 3 t _ HT.out (by decide) rfl);have q4 : x8.cell? ⟨g,k * 6 + 4,none⟩ = some (.int .i64 t.tim.len):=((HB0.out.trans (HB8.out.mono hws)).cell (p:=⟨g,k * 6 + 4,none⟩) hgw).trans (HX.out.cell k 4 t _ HT.out (by decide) rfl);have q5 : x8.cell? ⟨g,k * 6 + 5,none⟩ = some (.string t.room):=((HB0.out.trans (HB8.out.mono hws)).cell (p:=⟨g,k * 6 + 5,none⟩) hgw).trans (HX.out.cell k 5 t _ HT.out (by decide) rfl);have q0 : x8.cell? ⟨g,k * 6,none⟩ = some (.string t.cls):=q0;go_wp2_with fail;go_quiet (fail)
    obtain ⟨wz,hq⟩ : ∃ X,X = x8.drewN nq:=⟨_,rfl⟩
    have HY_wz:=Lh (show RowS w0.heap.size wz _ (zs) from by rw [hq];exact HX8.out);have HB_wz:=Lh (show Below w0.heap.size w0 wz from by rw [hq];exact HB8.out.trans ⟨rfl,rfl,rfl,Nat.le_refl _,fun k hk => rfl⟩);rw [<- hq];clear hq nq;clear p0 p1 p2 p3 p4 p5;clear q0 q1 q2 q3 q4 q5;have p0 : wz.cell? ⟨P,0,none⟩ = some (.string s.cls):=(HP0.out.below HB_wz.out hPlt).cell 0;have p1 : wz.cell? ⟨P,1,none⟩ = some (.int .i64 s.tim.weeks):=(HP0.out.below HB_wz.out hPlt).cell 1;have p2 : wz.cell? ⟨P,2,none⟩ = some (.int .i64 s.tim.day):=(HP0.out.below HB_wz.out hPlt).cell 2;have p3 : wz.cell? ⟨P,3,none⟩ = some (.int .i64 s.tim.start):=(HP0.out.below HB_wz.out hPlt).cell 3;have p4 : wz.cell? ⟨P,4,none⟩ = some (.int .i64 s.tim.len):=(HP0.out.below HB_wz.out hPlt).cell 4;have p5 : wz.cell? ⟨P,5,none⟩ = some (.string s.room):=(HP0.out.below HB_wz.out hPlt).cell 5;have q0 : wz.cell? ⟨g,k * 6 + 0,none⟩ = some (.string t.cls):=((HB0.out.trans (HB_wz.out.mono hws)).cell (p:=⟨g,k * 6 + 0,none⟩) hgw).trans (HX.out.cell k 0 t _ HT.out (by decide) rfl);have q1 : wz.cell? ⟨g,k * 6 + 1,none⟩ = some (.int .i64 t.tim.weeks):=((HB0.out.trans (HB_wz.out.mono hws)).cell (p:=⟨g,k * 6 + 1,none⟩) hgw).trans (HX.out.cell k 1 t _ HT.out (by decide) rfl);have q2 : wz.cell? ⟨g,k * 6 + 2,none⟩ = some (.int .i64 t.tim.day):=((HB0.out.trans (HB_wz.out.mono hws)).cell (p:=⟨g,k * 6 + 2,none⟩) hgw).trans (HX.out.cell k 2 t _ HT.out (by decide) rfl);have q3 : wz.cell? ⟨g,k * 6 + 3,none⟩ = some (.int .i64 t.tim.start):=((HB0.out.trans (HB_wz.out.mono hws)).cell (p:=⟨g,k * 6 + 3,none⟩) hgw).trans (HX.out.cell k 3 t _ HT.out (by decide) rfl);have q4 : wz.cell? ⟨g,k * 6 + 4,none⟩ = some (.int .i64 t.tim.len):=((HB0.out.trans (HB_wz.out.mono hws)).cell (p:=⟨g,k * 6 + 4,none⟩) hgw).trans (HX.out.cell k 4 t _ HT.out (by decide) rfl);have q5 : wz.cell? ⟨g,k * 6 + 5,none⟩ = some (.string t.room):=((HB0.out.trans (HB_wz.out.mono hws)).cell (p:=⟨g,k * 6 + 5,none⟩) hgw).trans (HX.out.cell k 5 t _ HT.out (by decide) rfl);have q0 : wz.cell? ⟨g,k * 6,none⟩ = some (.string t.cls):=q0;cases eb
    ·have HYL:=Lh hyl2;have HG2:=Lh (show (zs ++ [t]) ++ putG s true (xs.drop (k + 1)) = putG s aw xs from by simpa using HGx.out);obtain ⟨pu,cu,hu⟩:=HY_wz.out.slice;subst hu;go_wp2_with (at_builtin;refine wpList_append_own_at _ rfl (.tmp 41) (.tmp 46) 110 rfl w0.heap.size 107 i0 _ 6 64 Tryz.underlying110 hii hz0 hz1 hz2 rfl (by decide) _ _ _ rfl (World.ownsRow.alloc HY_wz.out _) ⟨wz.heap.size,0,none⟩ 1 1 (sesCells t).toList rfl rfl (blk_cells (Blk.new wz (sesCells t) 107)) (sL_cell1 t) (by unfold maxLen;omega) (by omega) (by have:=HB_wz.out.size;simp;omega) ?_);intro v8 x8 hown8 hgrow _ hat;have HB8:=Lh (below_grownBy (HB_wz.out.trans ((below_box wz _).mono HB_wz.out.size)) (World.ownsRow.alloc HY_wz.out _) (Nat.le_refl _) (by have:=HB_wz.out.size;simp;omega) hgrow);have HX8:=Lh (show RowS w0.heap.size x8 v8 (zs ++ [t]) from RowS.snoc hown8);clear hown8 hgrow hat;clear p0 p1 p2 p3 p4 p5;clear q0 q1 q2 q3 q4 q5;go_wp2_with fail;go_roundw
     case rel => exact ⟨k + 1,true,zs ++ [t],rfl,by go_num,by have:=HLT.out;omega,by rw [List.length_append];simp;have:=HYL.out;first | omega | (simp at this;omega),HG2,HX8,HB8⟩
     case measure => simp [intOf];omega
    ·have HYL:=Lh hyl2;have HG2:=Lh (show zs ++ putG s true (xs.drop (k + 1)) = putG s aw xs from by simpa using HGx.out);go_wp2_with fail;go_roundw
     case rel => exact ⟨k + 1,true,zs,rfl,by go_num,by have:=HLT.out;omega,by have:=HYL.out;first | omega | (simp at this ⊢;omega),HG2,HY_wz,HB_wz⟩
     case measure => simp [intOf];omega
def RmOk (r : ByteArray) : Prop:=r = ⟨#[]⟩ ∨ r = ⟨#[82,49]⟩ ∨ r = ⟨#[82,50]⟩
def ClsOk (s : ByteArray) : Prop:=∃ c : UInt8,s = ⟨#[99,c]⟩ /\ 49 <= c.toNat /\ c.toNat <= 52
theorem two_bytes (a b : UInt8) : (⟨#[a]⟩ ++ ⟨#[b]⟩ : ByteArray) = ⟨#[a,b]⟩:=by
 apply ByteArray.ext
 simp [ByteArray.data_append]
theorem byte_in {n : Int} (h0 : 49 <= n) (h1 : n <= 52) : 49 <= (UInt8.ofNat n.toNat).toNat /\ (UInt8.ofNat n.toNat).toNat <= 52:=by
 rw [UInt8.toNat_ofNat_of_lt' (show n.toNat < UInt8.size by show n.toNat < 256;omega)];omega
structure SesOk (g : Tt.Grd) (n : Int) (s : Ses) : Prop where
 cls : ClsOk s.cls
 tim : Tt.TimOk g n s.tim
 room : RmOk s.room
structure VerOk (g : Tt.Grd) (n : Int) (l : List Ses) : Prop where
 asc : l.Pairwise (fun a b => lessU a.cls b.cls = true)
 each : ∀ s ∈ l,SesOk g n s
theorem VerOk.nil (g : Tt.Grd) (n : Int) : VerOk g n []:=⟨List.Pairwise.nil,fun s h => by cases h⟩
theorem putG_mem {s x : Ses} : ∀ {l : List Ses} {dn : Bool},x ∈ putG s dn l -> x = s /\ dn = false ∨ x ∈ l /\ x.cls ≠ s.cls
 | [],dn,h => by
  unfold putG at h;cases dn with
  | true => simp at h
  | false => simp at h;exact .inl ⟨h,rfl⟩
 | y :: r,dn,h => by
  rw [putG] at h;rcases List.mem_append.1 h with h | h
  ·split at h
   ·cases h
   ·rename_i g
    refine .inl ⟨List.mem_singleton.1 h,?_⟩;cases dn with
    | true => simp at g
    | false => rfl
  ·rcases List.mem_append.1 h with h | h
   ·split at h
    ·cases h
    ·rename_i g
     rw [List.mem_singleton.1 h];exact .inr ⟨List.mem_cons_self ..,fun q => g (by rw [q];simp)⟩
   ·rcases putG_mem h with ⟨a,b⟩ | ⟨a,b⟩
    ·refine .inl ⟨a,?_⟩;cases dn with
     | true => simp at b
     | false => rfl
    ·exact .inr ⟨List.mem_cons_of_mem _ a,b⟩
theorem putG_done (s : Ses) : ∀ l : List Ses,putG s true l = l.filter (fun x => !(x.cls.toList == s.cls.toList))
 | [] => rfl
 | x :: r => by
  rw [putG,Bool.true_or,if_pos rfl,Bool.true_or,putG_done s r,List.nil_append,List.filter_cons];by_cases h : (x.cls.toList == s.cls.toList) = true
  ·rw [if_pos h,if_neg (by rw [h];decide),List.nil_append]
  ·rw [if_neg h,if_pos (by simpa using h)];rfl
theorem cls_less {a b : ByteArray} (h : ¬ lessU a b = true) (hne : ¬ (a.toList == b.toList) = true) : lessU b a = true :=
 late_less (not_less_late (by simpa using h) (fun q => hne (by rw [q];simp)))
theorem putG_asc {s : Ses} : ∀ {l : List Ses} {dn : Bool},l.Pairwise (fun a b => lessU a.cls b.cls = true) -> (putG s dn l).Pairwise (fun a b => lessU a.cls b.cls = true)
 | l,true,h => by rw [putG_done];exact h.filter _
 | [],false,_ => by unfold putG;exact List.pairwise_singleton _ _
 | x :: r,false,h => by
  obtain ⟨h1,h2⟩:=List.pairwise_cons.1 h;rw [putG,Bool.false_or,Bool.false_or];by_cases hl : Op.bytesLess x.cls.toList s.cls.toList = true
  ·have hls : lessU x.cls s.cls = true:=hl;have hne : ¬ (x.cls.toList == s.cls.toList) = true:=fun q => by
    have e : x.cls.toList = s.cls.toList:=by simpa using q
    rw [e,bytesLess_eq] at hl;simp at hl;exact List.lt_irrefl _ hl
   rw [if_pos hl,if_neg hne,hl,List.nil_append];refine List.pairwise_cons.2 ⟨fun y hy => ?_,putG_asc h2⟩;rcases putG_mem hy with ⟨a, -⟩ | ⟨a, -⟩
   ·rw [a];exact hls
   ·exact h1 y a
  ·have hl' : Op.bytesLess x.cls.toList s.cls.toList = false:=by simpa using hl
   rw [if_neg hl,hl',Bool.not_false,putG_done,List.singleton_append];refine List.pairwise_cons.2 ⟨fun y hy => ?_,?_⟩
   ·rcases List.mem_append.1 hy with hy | hy
    ·split at hy
     ·cases hy
     ·rename_i g
      rw [List.mem_singleton.1 hy];exact cls_less hl g
    ·have hm:=(List.mem_filter.1 hy).1;by_cases hq : (x.cls.toList == s.cls.toList) = true
     ·have e : x.cls.toList = s.cls.toList:=by simpa using hq
      have:=h1 y hm;unfold lessU at this ⊢;rwa [<- e]
     ·exact lessU_trans (cls_less hl hq) (h1 y hm)
   ·split
    ·exact h2.filter _
    ·exact List.pairwise_cons.2 ⟨fun y hy => h1 y (List.mem_filter.1 hy).1,h2.filter _⟩
theorem VerOk.put {g : Tt.Grd} {n : Int} {l : List Ses} {s : Ses} (h : VerOk g n l) (aw : Bool) (hs : SesOk g n s) : VerOk g n (putG s aw l) :=
 ⟨putG_asc h.asc,fun x hx => by
  rcases putG_mem hx with ⟨a, -⟩ | ⟨a, -⟩
  ·rw [a];exact hs
  ·exact h.each x a⟩
end Go.Proofs.YtageielcdebjlaaGreatDoor
