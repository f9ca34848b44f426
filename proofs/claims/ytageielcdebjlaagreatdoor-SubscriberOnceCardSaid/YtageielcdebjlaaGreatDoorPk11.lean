/- The generators of times and terms: their contracts. Plain facts on zones: which are valid, the instants at which clocks show a local time, and what a local time means. No program in sight. Condition: none. Zones in memory; zone.Valid and timetableref38.Valid: their contracts. -/
import Derived.Test.YtageielcdebjlaaGreatDoorPk10
import Derived.Test.YtageielcdebjlaaGreatDoorPk3
import Derived.Test.YtageielcdebjlaaGreatDoorPk1
import Derived.StillTailTactics
set_option maxRecDepth 100000
set_option maxHeartbeats 40000000
namespace Go.Proofs.YtageielcdebjlaaGreatDoor
open Go.RowKit
theorem Sofar.grow {b lo n k : Nat} {w0 w w2 : World} {e : TypeId} {v : Value} {xs : List Value} (h : Sofar b w0 w) (hown : w.ownsRow lo e k v n xs) (hl : w0.heap.size <= lo) (hb : b < lo) (hw : lo <= w.heap.size) (hg : w.grownBy w2 v.ownBlock) : Sofar b w0 w2 :=
 ⟨but_grown h.but (ownsRow_mono hown hl) h.but.size hg,dice_grown h.dice hown hb hw hg⟩
structure Tt.TimOk (g : Tt.Grd) (n : Int) (x : Tt.Tim) : Prop where
 w0 : 1 <= x.weeks
 w1 : x.weeks < ((2 ^ n.toNat : Nat) : Int)
 d0 : 0 <= x.day
 d1 : x.day < g.days
 s0 : 0 <= x.start
 l0 : 1 <= x.len
 l1 : x.start + x.len <= g.slots
theorem Tt.TimOk.fits {g : Tt.Grd} {n : Int} {x : Tt.Tim} (h : Tt.TimOk g n x) (hg : Tt.gridV g = 0) (hn0 : 1 <= n) (hn1 : n <= 20) : Tt.fitsV g n x = 0:=by
 obtain ⟨w0,w1,d0,d1,s0,l0,l1⟩:=h;have hw : Tt.weeksB x.weeks n = true:=by unfold Tt.weeksB;exact decide_eq_true ⟨hn0,hn1,w0,w1⟩
 have h2 : ((2 ^ n.toNat : Nat) : Int) <= ((2 ^ (20 : Int).toNat : Nat) : Int):=by
  have : 2 ^ n.toNat <= 2 ^ (20 : Int).toNat:=Nat.pow_le_pow_right (by omega) (by show n.toNat <= 20;omega);omega
 have hw2 : Tt.weeksB x.weeks 20 = true:=by unfold Tt.weeksB;exact decide_eq_true ⟨by omega,by omega,w0,by omega⟩
 have hb : g.days <= 7 /\ g.slots <= 24:=by
  unfold Tt.gridV at hg;split at hg
  ·cases hg
  ·omega
 unfold Tt.fitsV;rw [if_pos ⟨hg,hn0,hn1⟩,if_pos ⟨(Tt.soundB_iff x).2 ⟨hw2,d0,by omega,s0,by omega,l0,by omega⟩,hw,d1,l1⟩]
def Tt.HolP (f k d : Int) (xs : List Int) : Prop:=f <= d /\ xs.Pairwise (· < ·) /\ ∀ h ∈ xs,f <= h /\ h < d /\ h < f + 7 * k
theorem Tt.HolP.start (f k : Int) : Tt.HolP f k f []:=⟨Int.le_refl _,List.Pairwise.nil,fun h hh => by cases hh⟩
theorem Tt.HolP.step {f k d a : Int} {xs : List Int} (h : Tt.HolP f k d xs) (ha : 0 <= a) (hl : ¬ f + 7 * k <= d + a) : Tt.HolP f k (d + a + 1) (xs ++ [d + a]):=by
 obtain ⟨h1,h2,h3⟩:=h;refine ⟨by omega,?_,?_⟩
 ·rw [List.pairwise_append];exact ⟨h2,List.pairwise_singleton _ _,fun x hx y hy => by rw [List.mem_singleton] at hy;have:=h3 x hx;omega⟩
 ·intro x hx;rcases List.mem_append.1 hx with e | e
  ·have:=h3 x e;omega
  ·rw [List.mem_singleton] at e;omega
theorem Tt.holV_zero (a b : Int) : ∀ (l : List Int) (p : Option Int),l.Pairwise (· < ·) -> (∀ h ∈ l,a <= h /\ h <= b) -> (∀ q,p = some q -> ∀ h ∈ l,q < h) -> Tt.holV a b p l = 0
 | [],_,_,_,_ => rfl
 | x :: r,p,hs,hb,hp => by
  rw [List.pairwise_cons] at hs;have hx:=hb x (by simp);rw [Tt.holV,if_neg (by omega),if_neg]
  ·exact Tt.holV_zero a b r (some x) hs.2 (fun h hh => hb h (by simp [hh])) (fun q hq h hh => by cases hq;exact hs.1 h hh)
  ·cases p with
   | none => simp
   | some q => have:=hp q rfl x (by simp);simp;omega
theorem Tt.trm_ok {f k d m : Int} {xs : List Int} (h : Tt.HolP f k d xs) (hm : f = 2 + 7 * m) (h0 : 0 <= m) (h1 : m < 5000) (k0 : 1 <= k) (k1 : k <= 8) (hl : xs.length <= 50) : Tt.trmV ⟨f,k,xs⟩ = 0:=by
 obtain ⟨g1,g2,g3⟩:=h;have e1 : Tt.isD f = true:=(Tt.isD_iff f).2 ⟨by omega,by omega⟩;have e2 : Tt.wkdV f = 0:=by unfold Tt.wkdV Tt.wk;rw [if_pos e1];omega
 have e3 : Tt.lastT ⟨f,k,xs⟩ = f + 7 * k - 1:=rfl;have e4 : Tt.isD (f + 7 * k - 1) = true:=(Tt.isD_iff _).2 ⟨by omega,by omega⟩;unfold Tt.trmV;rw [if_neg (by show ¬ Tt.wkdV f ≠ 0;omega),if_neg (by show ¬ (k < 1 ∨ 20 < k);omega),e3,if_neg (by rw [e4];decide),if_neg (by show ¬ 64 < (xs.length : Int);omega)];exact Tt.holV_zero f (f + 7 * k - 1) xs none g2 (fun h hh => by have:=g3 h hh;omega) (fun q hq => by cases hq)
theorem time72v (b : Nat) (g : Tt.Grd) (n : Int) (w : World) (hd : Dice b w) (hn0 : 1 <= n) (hn1 : n <= 8) (g0 : 1 <= g.days) (g1 : g.days <= 5) (g2 : 2 <= g.slots) (g3 : g.slots <= 8) : Calls Tryz.prog 72 #[.pointer (some ⟨b,0,none⟩),grdVal g,.int .i64 n] w fun e w' => ∃ x : Tt.Tim,e = .returned (timVal x) /\ Tt.TimOk g n x /\ Sofar b w w':=by
 unfold grdVal;have hblt:=hd.lt;obtain ⟨P,hP⟩ : ∃ g,g = w.heap.size:=⟨_,rfl⟩
 obtain ⟨R,hR⟩ : ∃ g,g = w.heap.size + 1:=⟨_,rfl⟩
 obtain ⟨w0,hw0⟩ : ∃ X,X = ((w.alloc (.cells #[.int .i64 g.days,.int .i64 g.slots,.int .i64 g.begin_,.int .i64 g.mins] 90)).alloc (.cells #[.int .i64 0,.int .i64 0,.int .i64 0,.int .i64 0] 105)):=⟨_,rfl⟩
 have HS_w0:=Lh (show Sofar b w w0 from by rw [hw0];exact (((Sofar.refl hd).alloc _).alloc _));have HP_w0:=Lh (show Blk P #[.int .i64 g.days,.int .i64 g.slots,.int .i64 g.begin_,.int .i64 g.mins] 90 w0 from by rw [hw0,hP];exact (Blk.new' _ _ _ (by simp)).alloc _);have lP : w.heap.size <= P:=by omega
 have HR_w0:=Lh (show Blk R #[.int .i64 0,.int .i64 0,.int .i64 0,.int .i64 0] 105 w0 from by rw [hw0,hR];exact Blk.new' _ _ _ (by simp));have lR : w.heap.size <= R:=by omega
 have nRP : R ≠ P:=by omega
 have bP : b < P:=by omega
 have bR : b < R:=by omega
 go_enter Tryz.func72,Tryz.ntmps72;go_upto_region 1 with (fail);rw [<- hw0,<- hR,<- hP];clear hw0 hP hR;have nPb : P ≠ b:=by omega
 have nRb : R ≠ b:=by omega
 have hbB : b < w0.heap.size:=HS_w0.out.dice.lt;have hws:=HS_w0.out.but.size;refine wp_region_tail 13 (by kernel_rfl) (fun listed a x => ∃ (l0 l1 l2 l3 l4 l5 l6 l7 l8 l9 l10 l11 l12 : Bool) (t7 t8 t9 t10 t11 t12 t13 t14 t15 t16 t17 t18 t19 : Value),listed = #[l0,l1,l2,l3,l4,l5,l6,l7,l8,l9,l10,l11,l12,false] /\ a = ⟨(.pointer (some ⟨b,0,none⟩) :: .agg #[.int .i64 g.days,.int .i64 g.slots,.int .i64 g.begin_,.int .i64 g.mins] :: .int .i64 n :: undef :: .pointer (some ⟨P,0,none⟩) :: undef :: .pointer (some ⟨R,0,none⟩) :: t7 :: t8 :: t9 :: t10 :: t11 :: t12 :: t13 :: t14 :: t15 :: t16 :: t17 :: t18 :: t19 :: undef :: undef :: undef :: undef :: undef :: undef :: undef :: undef :: undef :: undef :: []).toArray,[]⟩ /\ Hid (l0 = true -> t8 = .pointer (some ⟨b,0,none⟩)) /\ Hid (l1 = true -> t9 = .int .i64 n) /\ Hid (l2 = true -> ∃ (m : Int),t10 = .int .i64 m /\ 1 <= m /\ m < ((2 ^ n.toNat : Nat) : Int)) /\ Hid (l3 = true -> t11 = .pointer (some ⟨b,0,none⟩)) /\ Hid (l4 = true -> t12 = .pointer (some ⟨P,0,none⟩)) /\ Hid (l5 = true -> t13 = .int .i64 g.days) /\ Hid (l6 = true -> ∃ (m : Int),t14 = .int .i64 m /\ 0 <= m /\ m < g.days) /\ Hid (l7 = true -> t15 = .pointer (some ⟨b,0,none⟩)) /\ Hid (l8 = true -> t16 = .pointer (some ⟨P,1,none⟩)) /\ Hid (l9 = true -> t17 = .int .i64 g.slots) /\ Hid (l10 = true -> ∃ (n : Int),t18 = .int .i64 n /\ 0 <= n /\ n < g.slots) /\ Hid (l11 = true -> ∃ (p : Int) (q : Int) (r : Int),t19 = .agg #[.int .i64 p,.int .i64 q,.int .i64 r,.int .i64 0] /\ 0 <= r /\ r < g.slots /\ 0 <= q /\ q < g.days /\ 1 <= p /\ p < ((2 ^ n.toNat : Nat) : Int)) /\ Hid (l12 = true -> ∃ (S : Nat),t7 = .pointer (some ⟨S,0,none⟩) /\ w0.heap.size <= S /\ Blk S #[.int .i64 0,.int .i64 0,.int .i64 0,.int .i64 0] 105 x) /\ Hid (Sofar b w0 x)) (by decide) (by kernel_rfl) (by kernel_rfl) ?_ ?_ ?_ ?_
 ·exact ⟨false,false,false,false,false,false,false,false,false,false,false,false,false,_,_,_,_,_,_,_,_,_,_,_,_,_,rfl,rfl,Lh (fun h => by cases h),Lh (fun h => by cases h),Lh (fun h => by cases h),Lh (fun h => by cases h),Lh (fun h => by cases h),Lh (fun h => by cases h),Lh (fun h => by cases h),Lh (fun h => by cases h),Lh (fun h => by cases h),Lh (fun h => by cases h),Lh (fun h => by cases h),Lh (fun h => by cases h),Lh (fun h => by cases h),Lh (Sofar.start HS_w0.out.dice)⟩
 ·intro listed a x hj;obtain ⟨l0,l1,l2,l3,l4,l5,hj⟩:=hj;obtain ⟨l6,l7,l8,l9,l10,l11,hj⟩:=hj;obtain ⟨l12,t7,t8,t9,t10,t11,hj⟩:=hj;obtain ⟨t12,t13,t14,t15,t16,t17,hj⟩:=hj;obtain ⟨t18,t19,hj⟩:=hj;obtain ⟨h1, -⟩:=hj;subst h1;exact ⟨rfl,fun k h1 h2 => by (have h2 : k < 14:=h2);obtain rfl : k = 13:=(by omega);rfl⟩
 ·intro listed a x i hj hlt hu haf;obtain ⟨l0,l1,l2,l3,l4,l5,hj⟩:=hj;obtain ⟨l6,l7,l8,l9,l10,l11,hj⟩:=hj;obtain ⟨l12,t7,t8,t9,t10,t11,hj⟩:=hj;obtain ⟨t12,t13,t14,t15,t16,t17,hj⟩:=hj;obtain ⟨t18,t19,hl_,ha_,H0,H1,hj⟩:=hj;obtain ⟨H2,H3,H4,H5,H6,H7,hj⟩:=hj;obtain ⟨H8,H9,H10,H11,H12,hj⟩:=hj;have HS:=hj;clear hj;subst hl_;subst ha_;rcases (show ∀ i : Nat,i < 13 -> (i = 0 ∨ i = 1 ∨ i = 2 ∨ i = 3 ∨ i = 4 ∨ i = 5 ∨ i = 6 ∨ i = 7 ∨ i = 8 ∨ i = 9 ∨ i = 10 ∨ i = 11 ∨ i = 12) by decide) i hlt with rfl | rfl | rfl | rfl | rfl | rfl | rfl | rfl | rfl | rfl | rfl | rfl | rfl
  ·have haf:=haf _ rfl;clear haf;have hu : l0 = false:=hu;refine wpOp_of_list_any rfl fun QQ hQ => ?_
   have hQQ:=Lh hQ;clear hQ;simp only [List.getElem_toArray,List.getElem_cons_zero];go_wp2_with fail;exact hQQ.out _ _ ⟨true,l1,l2,l3,l4,l5,l6,l7,l8,l9,l10,l11,l12,_,_,_,_,_,_,_,_,_,_,_,_,_,rfl,rfl,Lh (fun _ => rfl),H1,H2,H3,H4,H5,H6,H7,H8,H9,H10,H11,H12,HS⟩
  ·have haf:=haf _ rfl;clear haf;have hu : l1 = false:=hu;refine wpOp_of_list_any rfl fun QQ hQ => ?_
   have hQQ:=Lh hQ;clear hQ;simp only [List.getElem_toArray,List.getElem_cons_zero,List.getElem_cons_succ];go_wp2_with fail;exact hQQ.out _ _ ⟨l0,true,l2,l3,l4,l5,l6,l7,l8,l9,l10,l11,l12,_,_,_,_,_,_,_,_,_,_,_,_,_,rfl,rfl,H0,Lh (fun _ => rfl),H2,H3,H4,H5,H6,H7,H8,H9,H10,H11,H12,HS⟩
  ·have haf:=haf _ rfl;have q0 : l0 = true:=haf ⟨0,Go.Ground.data⟩ (by simp) rfl;have q1 : l1 = true:=haf ⟨1,Go.Ground.data⟩ (by simp) rfl;clear haf;have hu : l2 = false:=hu;have e0:=(H0.out q0)
   subst e0;clear H0;have e1:=(H1.out q1)
   subst e1;clear H1;refine wpOp_of_list_any rfl fun QQ hQ => ?_
   have hQQ:=Lh hQ;clear hQ;simp only [List.getElem_toArray,List.getElem_cons_zero,List.getElem_cons_succ];go_wp2_with fail;refine (set143 b n _ HS.out.dice hn0 hn1).mono ?_;rintro e x1 ⟨v,rfl,v0,v1,hs1⟩;have hk:=Kept.but hs1.but (B:=w0.heap.size) hbB;have HS1:=Lh (HS.out.trans hs1);clear hs1;go_wp2_with fail;exact hQQ.out _ _ ⟨l0,l1,true,l3,l4,l5,l6,l7,l8,l9,l10,l11,l12,_,_,_,_,_,_,_,_,_,_,_,_,_,rfl,rfl,Lh (fun _ => rfl),Lh (fun _ => rfl),Lh (fun _ => ⟨_,rfl,v0,v1⟩),H3,H4,H5,H6,H7,H8,H9,H10,H11,Lh (fun h => (by obtain ⟨S,e,c0,c1⟩:=H12.out h;exact ⟨S,e,c0,(hk _ _ _ c0 c1)⟩)),HS1⟩
  ·have haf:=haf _ rfl;clear haf;have hu : l3 = false:=hu;refine wpOp_of_list_any rfl fun QQ hQ => ?_
   have hQQ:=Lh hQ;clear hQ;simp only [List.getElem_toArray,List.getElem_cons_zero,List.getElem_cons_succ];go_wp2_with fail;exact hQQ.out _ _ ⟨l0,l1,l2,true,l4,l5,l6,l7,l8,l9,l10,l11,l12,_,_,_,_,_,_,_,_,_,_,_,_,_,rfl,rfl,H0,H1,H2,Lh (fun _ => rfl),H4,H5,H6,H7,H8,H9,H10,H11,H12,HS⟩
  ·have haf:=haf _ rfl;clear haf;have hu : l4 = false:=hu;refine wpOp_of_list_any rfl fun QQ hQ => ?_
   have hQQ:=Lh hQ;clear hQ;simp only [List.getElem_toArray,List.getElem_cons_zero,List.getElem_cons_succ];go_wp2_with fail;exact hQQ.out _ _ ⟨l0,l1,l2,l3,true,l5,l6,l7,l8,l9,l10,l11,l12,_,_,_,_,_,_,_,_,_,_,_,_,_,rfl,rfl,H0,H1,H2,H3,Lh (fun _ => rfl),H5,H6,H7,H8,H9,H10,H11,H12,HS⟩
  ·have haf:=haf _ rfl;have q4 : l4 = true:=haf ⟨4,Go.Ground.data⟩ (by simp) rfl;clear haf;have hu : l5 = false:=hu;have e4:=(H4.out q4)
   subst e4;clear H4;have hc : x.cell? ⟨P,0,none⟩ = some (.int .i64 g.days):=(HS.out.blk HP_w0.out nPb).cell 0;refine wpOp_of_list_any rfl fun QQ hQ => ?_
   have hQQ:=Lh hQ;clear hQ;simp only [List.getElem_toArray,List.getElem_cons_zero,List.getElem_cons_succ];go_wp2_with fail;exact hQQ.out _ _ ⟨l0,l1,l2,l3,l4,true,l6,l7,l8,l9,l10,l11,l12,_,_,_,_,_,_,_,_,_,_,_,_,_,rfl,rfl,H0,H1,H2,H3,Lh (fun _ => rfl),Lh (fun _ => rfl),H6,H7,H8,H9,H10,H11,H12,HS⟩
  ·have haf:=haf _ rfl;have q3 : l3 = true:=haf ⟨3,Go.Ground.data⟩ (by simp) rfl;have q5 : l5 = true:=haf ⟨5,Go.Ground.data⟩ (by simp) rfl;clear haf;have hu : l6 = false:=hu;have e3:=(H3.out q3)
   subst e3;clear H3;have e5:=(H5.out q5)
   subst e5;clear H5;refine wpOp_of_list_any rfl fun QQ hQ => ?_
   have hQQ:=Lh hQ;clear hQ;simp only [List.getElem_toArray,List.getElem_cons_zero,List.getElem_cons_succ];go_wp2_with fail;refine (next_any b g.days _ HS.out.dice (by omega) (by omega)).mono ?_;rintro e x1 ⟨v,rfl,h0,h1, -,hd1,ho1⟩;have h1:=h1 (by omega);have hk:=Kept.only ho1 hbB;have HS1:=Lh (HS.out.only hd1 ho1);clear ho1 hd1;go_wp2_with fail;exact hQQ.out _ _ ⟨l0,l1,l2,l3,l4,l5,true,l7,l8,l9,l10,l11,l12,_,_,_,_,_,_,_,_,_,_,_,_,_,rfl,rfl,H0,H1,H2,Lh (fun _ => rfl),H4,Lh (fun _ => rfl),Lh (fun _ => ⟨_,rfl,h0,h1⟩),H7,H8,H9,H10,H11,Lh (fun h => (by obtain ⟨S,e,c0,c1⟩:=H12.out h;exact ⟨S,e,c0,(hk _ _ _ c0 c1)⟩)),HS1⟩
  ·have haf:=haf _ rfl;clear haf;have hu : l7 = false:=hu;refine wpOp_of_list_any rfl fun QQ hQ => ?_
   have hQQ:=Lh hQ;clear hQ;simp only [List.getElem_toArray,List.getElem_cons_zero,List.getElem_cons_succ];go_wp2_with fail;exact hQQ.out _ _ ⟨l0,l1,l2,l3,l4,l5,l6,true,l8,l9,l10,l11,l12,_,_,_,_,_,_,_,_,_,_,_,_,_,rfl,rfl,H0,H1,H2,H3,H4,H5,H6,Lh (fun _ => rfl),H8,H9,H10,H11,H12,HS⟩
  ·have haf:=haf _ rfl;clear haf;have hu : l8 = false:=hu;refine wpOp_of_list_any rfl fun QQ hQ => ?_
   have hQQ:=Lh hQ;clear hQ;simp only [List.getElem_toArray,List.getElem_cons_zero,List.getElem_cons_succ];go_wp2_with fail;exact hQQ.out _ _ ⟨l0,l1,l2,l3,l4,l5,l6,l7,true,l9,l10,l11,l12,_,_,_,_,_,_,_,_,_,_,_,_,_,rfl,rfl,H0,H1,H2,H3,H4,H5,H6,H7,Lh (fun _ => rfl),H9,H10,H11,H12,HS⟩
  ·have haf:=haf _ rfl;have q8 : l8 = true:=haf ⟨8,Go.Ground.data⟩ (by simp) rfl;clear haf;have hu : l9 = false:=hu;have e8:=(H8.out q8)
   subst e8;clear H8;have hc : x.cell? ⟨P,1,none⟩ = some (.int .i64 g.slots):=(HS.out.blk HP_w0.out nPb).cell 1;refine wpOp_of_list_any rfl fun QQ hQ => ?_
   have hQQ:=Lh hQ;clear hQ;simp only [List.getElem_toArray,List.getElem_cons_zero,List.getElem_cons_succ];go_wp2_with fail;exact hQQ.out _ _ ⟨l0,l1,l2,l3,l4,l5,l6,l7,l8,true,l10,l11,l12,_,_,_,_,_,_,_,_,_,_,_,_,_,rfl,rfl,H0,H1,H2,H3,H4,H5,H6,H7,Lh (fun _ => rfl),Lh (fun _ => rfl),H10,H11,H12,HS⟩
  ·have haf:=haf _ rfl;have q7 : l7 = true:=haf ⟨7,Go.Ground.data⟩ (by simp) rfl;have q9 : l9 = true:=haf ⟨9,Go.Ground.data⟩ (by simp) rfl;clear haf;have hu : l10 = false:=hu;have e7:=(H7.out q7)
   subst e7;clear H7;have e9:=(H9.out q9)
   subst e9;clear H9;refine wpOp_of_list_any rfl fun QQ hQ => ?_
   have hQQ:=Lh hQ;clear hQ;simp only [List.getElem_toArray,List.getElem_cons_zero,List.getElem_cons_succ];go_wp2_with fail;refine (next_any b g.slots _ HS.out.dice (by omega) (by omega)).mono ?_;rintro e x1 ⟨v,rfl,h0,h1, -,hd1,ho1⟩;have h1:=h1 (by omega);have hk:=Kept.only ho1 hbB;have HS1:=Lh (HS.out.only hd1 ho1);clear ho1 hd1;go_wp2_with fail;exact hQQ.out _ _ ⟨l0,l1,l2,l3,l4,l5,l6,l7,l8,l9,true,l11,l12,_,_,_,_,_,_,_,_,_,_,_,_,_,rfl,rfl,H0,H1,H2,H3,H4,H5,H6,Lh (fun _ => rfl),H8,Lh (fun _ => rfl),Lh (fun _ => ⟨_,rfl,h0,h1⟩),H11,Lh (fun h => (by obtain ⟨S,e,c0,c1⟩:=H12.out h;exact ⟨S,e,c0,(hk _ _ _ c0 c1)⟩)),HS1⟩
  ·have haf:=haf _ rfl;have q2 : l2 = true:=haf ⟨2,Go.Ground.data⟩ (by simp) rfl;have q6 : l6 = true:=haf ⟨6,Go.Ground.data⟩ (by simp) rfl;have q10 : l10 = true:=haf ⟨10,Go.Ground.data⟩ (by simp) rfl;clear haf;have hu : l11 = false:=hu;obtain ⟨m2,e2,c2_0,c2_1⟩:=(H2.out q2)
   subst e2;clear H2;obtain ⟨m6,e6,c6_0,c6_1⟩:=(H6.out q6)
   subst e6;clear H6;obtain ⟨n10,e10,c10_0,c10_1⟩:=(H10.out q10)
   subst e10;clear H10;refine wpOp_of_list_any rfl fun QQ hQ => ?_
   have hQQ:=Lh hQ;clear hQ;simp only [List.getElem_toArray,List.getElem_cons_zero,List.getElem_cons_succ];go_wp2_with fail;exact hQQ.out _ _ ⟨l0,l1,l2,l3,l4,l5,l6,l7,l8,l9,l10,true,l12,_,_,_,_,_,_,_,_,_,_,_,_,_,rfl,rfl,H0,H1,Lh (fun _ => ⟨m2,rfl,c2_0,c2_1⟩),H3,H4,H5,Lh (fun _ => ⟨m6,rfl,c6_0,c6_1⟩),H7,H8,H9,Lh (fun _ => ⟨n10,rfl,c10_0,c10_1⟩),Lh (fun _ => ⟨_,_,_,rfl,c10_0,c10_1,c6_0,c6_1,c2_0,c2_1⟩),H12,HS⟩
  ·have haf:=haf _ rfl;clear haf;have hu : l12 = false:=hu;refine wpOp_of_list_any rfl fun QQ hQ => ?_
   have hQQ:=Lh hQ;clear hQ;simp only [List.getElem_toArray,List.getElem_cons_zero,List.getElem_cons_succ];go_wp2_with fail;exact hQQ.out _ _ ⟨l0,l1,l2,l3,l4,l5,l6,l7,l8,l9,l10,l11,true,_,_,_,_,_,_,_,_,_,_,_,_,_,rfl,rfl,H0,H1,H2,H3,H4,H5,H6,H7,H8,H9,H10,H11,Lh (fun _ => ⟨_,rfl,HS.out.but.size,Blk.new x _ _⟩),Lh (HS.out.alloc _)⟩
 ·intro listed a x hj hall;obtain ⟨l0,l1,l2,l3,l4,l5,hj⟩:=hj;obtain ⟨l6,l7,l8,l9,l10,l11,hj⟩:=hj;obtain ⟨l12,t7,t8,t9,t10,t11,hj⟩:=hj;obtain ⟨t12,t13,t14,t15,t16,t17,hj⟩:=hj;obtain ⟨t18,t19,hl_,ha_,H0,H1,hj⟩:=hj;obtain ⟨H2,H3,H4,H5,H6,H7,hj⟩:=hj;obtain ⟨H8,H9,H10,H11,H12,hj⟩:=hj;have HS:=hj;clear hj;subst hl_;subst ha_;have q12 : l12 = true:=hall 12 (by omega);have q11 : l11 = true:=hall 11 (by omega);clear hall;obtain ⟨S12,e12,c12_0,c12_1⟩:=(H12.out q12)
  subst e12;obtain ⟨p11,q11,r11,e11,c11_0,c11_1,c11_2,c11_3,c11_4,c11_5⟩:=(H11.out q11)
  subst e11;have f0 : x.cell? ⟨S12,0,none⟩ = some (.int .i64 0):=c12_1.cell 0;have f1 : x.cell? ⟨S12,1,none⟩ = some (.int .i64 0):=c12_1.cell 1;have f2 : x.cell? ⟨S12,2,none⟩ = some (.int .i64 0):=c12_1.cell 2;have f3 : x.cell? ⟨S12,3,none⟩ = some (.int .i64 0):=c12_1.cell 3;have z0:=c12_1.frozen 0;have z1:=c12_1.frozen 1;have z2:=c12_1.frozen 2;have z3:=c12_1.frozen 3;refine tail_any (fun a x => ∃ (t7 t8 t9 t10 t11 t12 t13 t14 t15 t16 t17 t18 t19 : Value),a = ⟨(.pointer (some ⟨b,0,none⟩) :: .agg #[.int .i64 g.days,.int .i64 g.slots,.int .i64 g.begin_,.int .i64 g.mins] :: .int .i64 n :: undef :: .pointer (some ⟨P,0,none⟩) :: undef :: .pointer (some ⟨R,0,none⟩) :: t7 :: t8 :: t9 :: t10 :: t11 :: t12 :: t13 :: t14 :: t15 :: t16 :: t17 :: t18 :: t19 :: undef :: undef :: undef :: undef :: undef :: undef :: undef :: undef :: undef :: undef :: []).toArray,[]⟩ /\ ∃ (Q : Nat) (p q r : Int),t7 = .pointer (some ⟨Q,0,none⟩) /\ 0 <= r /\ r < g.slots /\ (0 <= q /\ q < g.days /\ 1 <= p /\ p < ((2 ^ n.toNat : Nat) : Int)) /\ w0.heap.size <= Q /\ Blk Q #[.int .i64 p,.int .i64 q,.int .i64 r,.int .i64 0] 105 x /\ Sofar b w0 x) ?_ fun QQ hQ => ?_
  ·intro a x hpost;obtain ⟨t7,t8,t9,t10,t11,t12,hpost⟩:=hpost;obtain ⟨t13,t14,t15,t16,t17,t18,hpost⟩:=hpost;obtain ⟨t19,ha_,hpost⟩:=hpost;subst ha_;obtain ⟨Q,p,q,r,rfl,rr0,rr1,hpq,lQ0,hBQ,hs⟩:=hpost;have HPQ:=Lh hpq;clear hpq;have HS_x:=Lh (HS_w0.out.trans hs);have HP_x:=Lh (hs.blk HP_w0.out nPb);have HR_x:=Lh (hs.blk HR_w0.out nRb);have HQ_x:=Lh hBQ;have lQ : w.heap.size <= Q:=by omega
   have nQP : Q ≠ P:=by have:=HP_w0.out.lt;omega
   have nQR : Q ≠ R:=by have:=HR_w0.out.lt;omega
   clear hBQ hs HS_w0 HP_w0 HR_w0 hbB hws;have cP0 : x.cell? ⟨P,0,none⟩ = some (.int .i64 g.days):=HP_x.out.cell 0;have cP1 : x.cell? ⟨P,1,none⟩ = some (.int .i64 g.slots):=HP_x.out.cell 1;have cP2 : x.cell? ⟨P,2,none⟩ = some (.int .i64 g.begin_):=HP_x.out.cell 2;have cP3 : x.cell? ⟨P,3,none⟩ = some (.int .i64 g.mins):=HP_x.out.cell 3;have cQ0 : x.cell? ⟨Q,0,none⟩ = some (.int .i64 p):=HQ_x.out.cell 0;have cQ1 : x.cell? ⟨Q,1,none⟩ = some (.int .i64 q):=HQ_x.out.cell 1;have cQ2 : x.cell? ⟨Q,2,none⟩ = some (.int .i64 r):=HQ_x.out.cell 2;have cQ3 : x.cell? ⟨Q,3,none⟩ = some (.int .i64 0):=HQ_x.out.cell 3;go_wp2_with fail;clear cP0 cP1 cP2 cP3;clear cQ0 cQ1 cQ2 cQ3;refine (next_any b (g.slots - r) _ HS_x.out.dice (by omega) (by omega)).mono ?_;rintro e w1 ⟨a1,rfl,l1,u1, -,hd,ho⟩;have u1:=u1 (by omega);have HS_w1:=Lh (HS_x.out.only hd ho);have HP_w1:=Lh (HP_x.out.only ho (by omega));have HR_w1:=Lh (HR_x.out.only ho (by omega));have HQ_w1:=Lh (HQ_x.out.only ho (by omega));clear hd ho HS_x HP_x HR_x HQ_x;have cQ0 : w1.cell? ⟨Q,0,none⟩ = some (.int .i64 p):=HQ_w1.out.cell 0;have cQ1 : w1.cell? ⟨Q,1,none⟩ = some (.int .i64 q):=HQ_w1.out.cell 1;have cQ2 : w1.cell? ⟨Q,2,none⟩ = some (.int .i64 r):=HQ_w1.out.cell 2;have cQ3 : w1.cell? ⟨Q,3,none⟩ = some (.int .i64 0):=HQ_w1.out.cell 3;have fQ0:=HQ_w1.out.frozen 0;have fQ1:=HQ_w1.out.frozen 1;have fQ2:=HQ_w1.out.frozen 2;have fQ3:=HQ_w1.out.frozen 3;go_upto_region 3 with (fail);clear cQ0 cQ1 cQ2 cQ3 fQ0 fQ1 fQ2 fQ3;obtain ⟨w2,hw⟩ : ∃ X,X = w1.setCell ⟨Q,3,none⟩ (.int .i64 (1 + a1)):=⟨_,rfl⟩
   have HS_w2:=Lh (show Sofar b w w2 from by rw [hw];exact HS_w1.out.set lQ (by omega) _ _);have HP_w2:=Lh (show Blk P #[.int .i64 g.days,.int .i64 g.slots,.int .i64 g.begin_,.int .i64 g.mins] 90 w2 from by rw [hw];exact HP_w1.out.set_other (by omega) _ _);have HR_w2:=Lh (show Blk R #[.int .i64 0,.int .i64 0,.int .i64 0,.int .i64 0] 105 w2 from by rw [hw];exact HR_w1.out.set_other (by omega) _ _);have HQ_w2:=Lh (show Blk Q #[.int .i64 p,.int .i64 q,.int .i64 r,.int .i64 (1 + a1)] 105 w2 from by rw [hw];exact HQ_w1.out.set 3 _);rw [<- hw];clear hw HS_w1 HP_w1 HR_w1 HQ_w1;have cQ0 : w2.cell? ⟨Q,0,none⟩ = some (.int .i64 p):=HQ_w2.out.cell 0;have cQ1 : w2.cell? ⟨Q,1,none⟩ = some (.int .i64 q):=HQ_w2.out.cell 1;have cQ2 : w2.cell? ⟨Q,2,none⟩ = some (.int .i64 r):=HQ_w2.out.cell 2;have cQ3 : w2.cell? ⟨Q,3,none⟩ = some (.int .i64 (1 + a1)):=HQ_w2.out.cell 3;have cR0 : w2.cell? ⟨R,0,none⟩ = some (.int .i64 0):=HR_w2.out.cell 0;have cR1 : w2.cell? ⟨R,1,none⟩ = some (.int .i64 0):=HR_w2.out.cell 1;have cR2 : w2.cell? ⟨R,2,none⟩ = some (.int .i64 0):=HR_w2.out.cell 2;have cR3 : w2.cell? ⟨R,3,none⟩ = some (.int .i64 0):=HR_w2.out.cell 3;have fR0:=HR_w2.out.frozen 0;have fR1:=HR_w2.out.frozen 1;have fR2:=HR_w2.out.frozen 2;have fR3:=HR_w2.out.frozen 3;go_wp2_with fail;obtain ⟨Y,hY,hBk,hE⟩:=fillS HR_w2.out HS_w2.out lR (by omega) [.int .i64 p,.int .i64 q,.int .i64 r,.int .i64 (1 + a1)] rfl;simp only [setAll,Nat.zero_add] at hY;rw [<- hY];clear cR0 cR1 cR2 cR3 fR0 fR1 fR2 fR3;clear hY;have r0:=hBk.cell 0;have r1:=hBk.cell 1;have r2:=hBk.cell 2;have r3:=hBk.cell 3;simp only [List.getElem?_toArray,List.getElem?_cons_zero,List.getElem?_cons_succ] at r0 r1 r2 r3;refine bodyPost_ret (v:=.agg #[.int .i64 p,.int .i64 q,.int .i64 r,.int .i64 (1 + a1)]) (by simp [results,Tryz.results72,go_sem,r0,r1,r2,r3]) rfl ?_;exact ⟨⟨p,q,r,1 + a1⟩,rfl,⟨HPQ.out.2.2.1,HPQ.out.2.2.2,HPQ.out.1,HPQ.out.2.1,rr0,by show 1 <= 1 + a1;omega,by show r + (1 + a1) <= g.slots;omega⟩,hE⟩
  have hQQ:=Lh hQ;clear hQ;simp only [List.drop_succ_cons,List.drop_zero];go_wp2_with fail;exact hQQ.out _ _ ⟨_,_,_,_,_,_,_,_,_,_,_,_,_,rfl,_,_,_,_,rfl,c11_0,c11_1,⟨c11_2,c11_3,c11_4,c11_5⟩,c12_0,(((c12_1.set 0 _).set 1 _).set 2 _).set 3 _,(((HS.out.set c12_0 (by omega) 0 _).set c12_0 (by omega) 1 _).set c12_0 (by omega) 2 _).set c12_0 (by omega) 3 _⟩
theorem term61v (b : Nat) (w : World) (hd : Dice b w) : Calls Tryz.prog 61 #[.pointer (some ⟨b,0,none⟩)] w fun e w' => ∃ (t : Tt.Trm) (v : Value),e = .returned (trmVal t v) /\ RowI w.heap.size w' v t.hols /\ t.hols.length <= 50 /\ 2 <= t.first /\ t.first <= 35002 /\ 1 <= t.weeks /\ t.weeks <= 8 /\ Tt.trmV t = 0 /\ Sofar b w w':=by
 obtain ⟨i0,hii,hz0,hz1,hz2⟩:=info_parts infoInt;have hblt:=hd.lt;obtain ⟨R,hR⟩ : ∃ g,g = w.heap.size:=⟨_,rfl⟩
 obtain ⟨w0,hw0⟩ : ∃ X,X = (w.alloc (.cells #[.int .i64 0,.int .i64 0,.slice none 0 0] 93)):=⟨_,rfl⟩
 have HS_w0:=Lh (show Sofar b w w0 from by rw [hw0];exact ((Sofar.refl hd).alloc _));have HR_w0:=Lh (show Blk R #[.int .i64 0,.int .i64 0,.slice none 0 0] 93 w0 from by rw [hw0,hR];exact Blk.new' _ _ _ (by simp));have lR : w.heap.size <= R:=by omega
 have bR : b < R:=by omega
 go_enter Tryz.func61,Tryz.ntmps61;go_upto_region 1 with (fail);rw [<- hw0,<- hR];clear hw0 hR;go_wp2_with fail;refine (next_any b 5000 _ HS_w0.out.dice (by omega) (by omega)).mono ?_;rintro e w1 ⟨a1,rfl,l1,u1, -,hd,ho⟩;have u1:=u1 (by omega);have HS_w1:=Lh (HS_w0.out.only hd ho);have HR_w1:=Lh (HR_w0.out.only ho (by omega));clear hd ho HS_w0 HR_w0;go_wp2_with fail;refine (next_any b 8 _ HS_w1.out.dice (by omega) (by omega)).mono ?_;rintro e w2 ⟨a2,rfl,l2,u2, -,hd,ho⟩;have u2:=u2 (by omega);have HS_w2:=Lh (HS_w1.out.only hd ho);have HR_w2:=Lh (HR_w1.out.only ho (by omega));clear hd ho HS_w1 HR_w1;obtain ⟨Q,hQ⟩ : ∃ g,g = w2.heap.size:=⟨_,rfl⟩
 obtain ⟨w3,hw⟩ : ∃ X,X = w2.alloc (.cells #[.int .i64 (2 + 7 * a1),.int .i64 (1 + a2),.slice none 0 0] 93):=⟨_,rfl⟩
 have HS_w3:=Lh (show Sofar b w w3 from by rw [hw];exact HS_w2.out.alloc _);have HR_w3:=Lh (show Blk R #[.int .i64 0,.int .i64 0,.slice none 0 0] 93 w3 from by rw [hw];exact HR_w2.out.alloc _);have HQ_w3:=Lh (show Blk Q #[.int .i64 (2 + 7 * a1),.int .i64 (1 + a2),.slice none 0 0] 93 w3 from by rw [hw,hQ];exact Blk.new w2 _ _);have lQ : w.heap.size <= Q:=by have:=HS_w2.out.but.size;omega
 have nQR : Q ≠ R:=by have:=HR_w2.out.lt;omega
 go_upto_region 2 with (fail);rw [<- hw,<- hQ];clear hw hQ;clear HS_w2 HR_w2;obtain ⟨f,hf⟩ : ∃ f,f = 2 + 7 * a1:=⟨_,rfl⟩
 obtain ⟨k,hk⟩ : ∃ k,k = 1 + a2:=⟨_,rfl⟩
 rw [<- hf,<- hk] at HQ_w3;have hf0 : 2 <= f:=by omega
 have hf1 : f <= 34995:=by omega
 have hk0 : 1 <= k:=by omega
 have hk1 : k <= 8:=by omega
 have HFM:=Lh (show f = 2 + 7 * a1 /\ 0 <= a1 /\ a1 < 5000 from ⟨hf,l1,u1⟩);clear hf hk;have cQ0 : w3.cell? ⟨Q,0,none⟩ = some (.int .i64 f):=HQ_w3.out.cell 0;have cQ1 : w3.cell? ⟨Q,1,none⟩ = some (.int .i64 k):=HQ_w3.out.cell 1;have cQ2 : w3.cell? ⟨Q,2,none⟩ = some (.slice none 0 0):=HQ_w3.out.cell 2;go_wp2_with fail;clear cQ0 cQ1 cQ2;refine (next_any b 5 _ HS_w3.out.dice (by omega) (by omega)).mono ?_;rintro e w4 ⟨a4,rfl,l4,u4, -,hd,ho⟩;have u4:=u4 (by omega);have HS_w4:=Lh (HS_w3.out.only hd ho);have HR_w4:=Lh (HR_w3.out.only ho (by omega));have HQ_w4:=Lh (HQ_w3.out.only ho (by omega));clear hd ho HS_w3 HR_w3 HQ_w3;have hbQ : b < Q:=by omega
 have hwb : b < w.heap.size:=hblt;go_wp2_with fail;go_loopw [4,5] (fun dv nv wr => ∃ (d n : Int) (p : Option Addr) (c : Nat) (xs : List Int),dv = .int .i64 d /\ nv = .int .i64 n /\ 0 <= n /\ n <= 4 /\ 0 <= d /\ d <= 100000 - 100 * n /\ xs.length + n <= 5 /\ Hid (Tt.HolP f k d xs) /\ Hid (RowI w.heap.size wr (.slice p xs.length c) xs) /\ Hid (Blk Q #[.int .i64 f,.int .i64 k,.slice p xs.length c] 93 wr) /\ Hid (Blk R #[.int .i64 0,.int .i64 0,.slice none 0 0] 93 wr) /\ Hid (Sofar b w wr)) (fun _ nv _ => (intOf nv).toNat)
 case atStart => exact ⟨f,a4,none,0,[],rfl,rfl,by omega,by omega,by omega,by omega,by simp;omega,Lh (Tt.HolP.start f k),Lh (RowI.nil _ _),HQ_w4,HR_w4,HS_w4⟩
 case round =>
  obtain ⟨d,n,p,c,xs,rfl,rfl,hn0,hn1,hd0,hd1,hxl,HHP,HX,HQ_wr,HR_wr,HS_wr⟩:=hrel;have HXL:=Lh hxl;by_cases hpos : 0 < n
  rotate_left
  ·obtain rfl : n = 0:=by omega
   have cQ0 : wr.cell? ⟨Q,0,none⟩ = some (.int .i64 f):=HQ_wr.out.cell 0;have cQ1 : wr.cell? ⟨Q,1,none⟩ = some (.int .i64 k):=HQ_wr.out.cell 1;have cQ2 : wr.cell? ⟨Q,2,none⟩ = some (.slice p xs.length c):=HQ_wr.out.cell 2;have cR0 : wr.cell? ⟨R,0,none⟩ = some (.int .i64 0):=HR_wr.out.cell 0;have cR1 : wr.cell? ⟨R,1,none⟩ = some (.int .i64 0):=HR_wr.out.cell 1;have cR2 : wr.cell? ⟨R,2,none⟩ = some (.slice none 0 0):=HR_wr.out.cell 2;have fR0:=HR_wr.out.frozen 0;have fR1:=HR_wr.out.frozen 1;have fR2:=HR_wr.out.frozen 2;go_wp2_with fail;obtain ⟨Y,hY,hBk,hE⟩:=fillS HR_wr.out HS_wr.out lR (by omega) [.int .i64 f,.int .i64 k,.slice p xs.length c] rfl;have HXF:=Lh (show RowI w.heap.size Y (.slice p xs.length c) xs from by rw [hY];exact row_setAll (by decide) _ 0 _ _ HX.out HR_wr.out);simp only [setAll,Nat.zero_add] at hY;rw [<- hY];clear cR0 cR1 cR2 fR0 fR1 fR2;clear hY;have r0:=hBk.cell 0;have r1:=hBk.cell 1;have r2:=hBk.cell 2;simp only [List.getElem?_toArray,List.getElem?_cons_zero,List.getElem?_cons_succ] at r0 r1 r2;refine bodyPost_ret (v:=.agg #[.int .i64 f,.int .i64 k,.slice p xs.length c]) (by simp [results,Tryz.results61,go_sem,r0,r1,r2]) rfl ?_;exact ⟨⟨f,k,xs⟩,_,rfl,HXF.out,by show xs.length <= 50;omega,hf0,by show f <= 35002;omega,hk0,hk1,Tt.trm_ok HHP.out HFM.out.1 HFM.out.2.1 HFM.out.2.2 hk0 hk1 (by omega),hE⟩
  go_wp2_with fail;refine (next_any b 20 _ HS_wr.out.dice (by omega) (by omega)).mono ?_;rintro e w21 ⟨a21,rfl,l21,u21, -,hd,ho⟩;have u21:=u21 (by omega);have HS_w21:=Lh (HS_wr.out.only hd ho);have HQ_w21:=Lh (HQ_wr.out.only ho (by omega));have HR_w21:=Lh (HR_wr.out.only ho (by omega));have HX1:=Lh (show RowI w.heap.size w21 (.slice p xs.length c) xs from row_but HX.out hwb ho.but);clear hd ho HS_wr HQ_wr HR_wr;obtain ⟨dd,hdd⟩ : ∃ x,x = d + a21:=⟨_,rfl⟩
  have hdd0 : 0 <= dd:=by omega
  have hdd1 : dd <= 100000 - 100 * n + 20:=by omega
  by_cases hend : f + 7 * k <= d + a21
  ·have cQ0 : w21.cell? ⟨Q,0,none⟩ = some (.int .i64 f):=HQ_w21.out.cell 0;have cQ1 : w21.cell? ⟨Q,1,none⟩ = some (.int .i64 k):=HQ_w21.out.cell 1;have cQ2 : w21.cell? ⟨Q,2,none⟩ = some (.slice p xs.length c):=HQ_w21.out.cell 2;have cR0 : w21.cell? ⟨R,0,none⟩ = some (.int .i64 0):=HR_w21.out.cell 0;have cR1 : w21.cell? ⟨R,1,none⟩ = some (.int .i64 0):=HR_w21.out.cell 1;have cR2 : w21.cell? ⟨R,2,none⟩ = some (.slice none 0 0):=HR_w21.out.cell 2;have fR0:=HR_w21.out.frozen 0;have fR1:=HR_w21.out.frozen 1;have fR2:=HR_w21.out.frozen 2;go_wp2_with fail;obtain ⟨Y,hY,hBk,hE⟩:=fillS HR_w21.out HS_w21.out lR (by omega) [.int .i64 f,.int .i64 k,.slice p xs.length c] rfl;have HXF:=Lh (show RowI w.heap.size Y (.slice p xs.length c) xs from by rw [hY];exact row_setAll (by decide) _ 0 _ _ HX1.out HR_w21.out);simp only [setAll,Nat.zero_add] at hY;rw [<- hY];clear cR0 cR1 cR2 fR0 fR1 fR2;clear hY;have r0:=hBk.cell 0;have r1:=hBk.cell 1;have r2:=hBk.cell 2;simp only [List.getElem?_toArray,List.getElem?_cons_zero,List.getElem?_cons_succ] at r0 r1 r2;refine bodyPost_ret (v:=.agg #[.int .i64 f,.int .i64 k,.slice p xs.length c]) (by simp [results,Tryz.results61,go_sem,r0,r1,r2]) rfl ?_;exact ⟨⟨f,k,xs⟩,_,rfl,HXF.out,by show xs.length <= 50;omega,hf0,by show f <= 35002;omega,hk0,hk1,Tt.trm_ok HHP.out HFM.out.1 HFM.out.2.1 HFM.out.2.2 hk0 hk1 (by omega),hE⟩
  ·have cQ0 : w21.cell? ⟨Q,0,none⟩ = some (.int .i64 f):=HQ_w21.out.cell 0;have cQ1 : w21.cell? ⟨Q,1,none⟩ = some (.int .i64 k):=HQ_w21.out.cell 1;have cQ2 : w21.cell? ⟨Q,2,none⟩ = some (.slice p xs.length c):=HQ_w21.out.cell 2;have fQ0:=HQ_w21.out.frozen 0;have fQ1:=HQ_w21.out.frozen 1;have fQ2:=HQ_w21.out.frozen 2;go_wp2_with (at_builtin;refine wpList_append_own_at _ rfl (.tmp 35) (.tmp 37) 27 rfl w.heap.size 3 i0 (.int .i64 0) 1 8 Tryz.underlying27 hii hz0 hz1 hz2 rfl (by decide) _ _ _ rfl (World.ownsRow.alloc HX1.out _) ⟨w21.heap.size,0,none⟩ 1 1 [.int .i64 (d + a21)] rfl rfl (cell_one _ _ _) (by intro u hu;simp at hu;subst hu;rfl) (by unfold maxLen;omega) (by omega) (by have:=HS_w21.out.but.size;simp;omega) ?_);intro v2 x8 hown8 hgrow _ hat;obtain ⟨p2,c2,hv2⟩:=ownsRow_len hown8;subst hv2;clear cQ0 cQ1 cQ2 fQ0 fQ1 fQ2;have HQ8:=Lh ((HQ_w21.out.alloc (.cells #[.int .i64 (d + a21)] 3)).grown (World.ownsRow.alloc HX1.out _) hgrow (by decide));have HR8:=Lh ((HR_w21.out.alloc (.cells #[.int .i64 (d + a21)] 3)).grown (World.ownsRow.alloc HX1.out _) hgrow (by decide));have HS8:=Lh ((HS_w21.out.alloc (.cells #[.int .i64 (d + a21)] 3)).grow (World.ownsRow.alloc HX1.out _) (Nat.le_refl _) hwb (by have:=HS_w21.out.but.size;simp;omega) hgrow);have hX8 : RowI w.heap.size x8 (.slice p2 (xs.length + 1) c2) (xs ++ [d + a21]):=RowI.snoc hown8;have fz : x8.frozen? ⟨Q,2,none⟩ = false:=HQ8.out.frozen 2;have cz : x8.cell? ⟨Q,2,none⟩ = some (.slice p xs.length c):=HQ8.out.cell 2;have HX9:=Lh (row_set hX8 HQ8.out (by decide) 2 (.slice p2 (xs.length + 1) c2));have HQ9:=Lh (HQ8.out.set 2 (.slice p2 (xs.length + 1) c2));have HR9:=Lh (HR8.out.set_other (show R ≠ Q by omega) 2 (.slice p2 (xs.length + 1) c2));have HS9:=Lh (HS8.out.set lQ hbQ 2 (.slice p2 (xs.length + 1) c2));clear hX8 hown8 hgrow hat HQ8 HR8 HS8;go_wp2_with fail;go_roundw
   case rel => exact ⟨d + a21 + 1,n - 1,p2,c2,xs ++ [d + a21],by go_num,by go_num,by omega,by omega,by omega,by omega,by simp;omega,Lh (HHP.out.step (by omega) (by omega)),Lh (by rw [List.length_append];exact HX9.out),Lh (by rw [List.length_append];exact HQ9.out),HR9,HS9⟩
   case measure => simp [intOf];omega
end Go.Proofs.YtageielcdebjlaaGreatDoor
namespace Tt
def nearB (o : Int) : Bool:=decide (-840 <= o) && decide (o <= 840)
def instB (t : Int) : Bool:=decide (0 <= t) && decide (t < 52596000)
theorem nearB_iff (o : Int) : nearB o = true ↔ -840 <= o /\ o <= 840:=by unfold nearB;simp
theorem instB_iff (t : Int) : instB t = true ↔ 0 <= t /\ t < 52596000:=by unfold instB;simp
def lateA : Option Int -> Int -> Bool
 | none,_ => false
 | some q,a => decide (a < q + 2880)
def shV : Option Int -> Int -> List (Int × Int) -> Int
 | _,_,[] => 0
 | p,off,x :: r => if (instB x.1 && nearB x.2) = false then 3 else if lateA p x.1 = true then 63 else if x.2 = off ∨ off + 180 < x.2 ∨ x.2 < off - 180 then 1 else shV (some x.1) x.2 r
def zoneV (code : Bool) (off : Int) (sh : List (Int × Int)) : Int :=
 if code = false then 10 else if nearB off = false then 3 else if 64 < (sh.length : Int) then 2 else shV none off sh
def prevA (sh : List (Int × Int)) (k : Nat) : Option Int:=if k = 0 then none else sh[k - 1]?.map (·.1)
def offs (off : Int) (sh : List (Int × Int)) (k : Nat) : Int:=if k = 0 then off else (sh[k - 1]?.map (·.2)).getD off
theorem prevA_succ (sh : List (Int × Int)) (k : Nat) (x : Int × Int) (h : sh[k]? = some x) : prevA sh (k + 1) = some x.1:=by unfold prevA;simp [h]
theorem offs_succ (off : Int) (sh : List (Int × Int)) (k : Nat) (x : Int × Int) (h : sh[k]? = some x) : offs off sh (k + 1) = x.2:=by unfold offs;simp [h]
def shF (off : Int) (sh : List (Int × Int)) (k : Nat) : Int:=shV (prevA sh k) (offs off sh k) (sh.drop k)
theorem shF_cons (off : Int) (sh : List (Int × Int)) (k : Nat) (x : Int × Int) (h : sh[k]? = some x) :
  shF off sh k = if (instB x.1 && nearB x.2) = false then 3 else if lateA (prevA sh k) x.1 = true then 63 else if x.2 = offs off sh k ∨ offs off sh k + 180 < x.2 ∨ x.2 < offs off sh k - 180 then 1 else shF off sh (k + 1):=by
 obtain ⟨g1,g2⟩:=List.getElem?_eq_some_iff.1 h;unfold shF;rw [List.drop_eq_getElem_cons g1,g2,shV,prevA_succ sh k x h,offs_succ off sh k x h]
theorem shF_end (off : Int) (sh : List (Int × Int)) (k : Nat) (h : sh.length <= k) : shF off sh k = 0:=by
 unfold shF;rw [List.drop_eq_nil_of_le h];unfold shV;rfl
def Asc : Int -> List (Int × Int) -> Prop
 | _,[] => True
 | m,x :: r => m <= x.1 /\ 0 <= x.1 /\ x.1 < 52596000 /\ -840 <= x.2 /\ x.2 <= 840 /\ Asc (x.1 + 2880) r
theorem asc_of : ∀ (sh : List (Int × Int)) (p : Option Int) (off m : Int),shV p off sh = 0 -> (∀ q,p = some q -> m <= q + 2880) -> (p = none -> m <= 0) -> Asc m sh
 | [],_,_,_,_,_,_ => trivial
 | x :: r,p,off,m,h,h1,h2 => by
  rw [shV] at h;split at h
  ·cases h
  ·rename_i g1
   simp only [Bool.not_eq_false,Bool.and_eq_true,instB_iff,nearB_iff] at g1;split at h
   ·cases h
   ·rename_i g2
    split at h
    ·cases h
    ·refine ⟨?_,g1.1.1,g1.1.2,g1.2.1,g1.2.2,asc_of r (some x.1) x.2 _ h (fun q hq => by cases hq;omega) (fun e => by cases e)⟩;cases p with
     | none => have:=h2 rfl;omega
     | some q => have:=h1 q rfl;simp [lateA] at g2;omega
def offAt (off : Int) : List (Int × Int) -> Int -> Int
 | [],_ => off
 | x :: r,t => offAt (if x.1 <= t then x.2 else off) r t
theorem offAt_cons (off : Int) (x : Int × Int) (r : List (Int × Int)) (t : Int) : offAt off (x :: r) t = offAt (if x.1 <= t then x.2 else off) r t:=rfl
theorem offAt_before : ∀ (sh : List (Int × Int)) (m off t : Int),Asc m sh -> t < m -> offAt off sh t = off
 | [],_,_,_,_,_ => rfl
 | x :: r,m,off,t,⟨h1,_,_,_,_,h2⟩,ht => by
  rw [offAt_cons,if_neg (by omega)];exact offAt_before r (x.1 + 2880) off t h2 (by omega)
theorem offAt_near : ∀ (sh : List (Int × Int)) (m off t : Int),Asc m sh -> -840 <= off -> off <= 840 -> -840 <= offAt off sh t /\ offAt off sh t <= 840
 | [],_,_,_,_,h1,h2 => ⟨h1,h2⟩
 | x :: r,m,off,t,⟨_,_,_,g1,g2,g3⟩,h1,h2 => by
  rw [offAt_cons];split
  ·exact offAt_near r _ _ t g3 g1 g2
  ·exact offAt_near r _ _ t g3 h1 h2
def instP : Int -> Int -> List (Int × Int) -> Int -> List Int
 | b,off,[],l => if b <= l - off /\ l - off < 52596000 then [l - off] else []
 | b,off,x :: r,l => (if b <= l - off /\ l - off < x.1 then [l - off] else []) ++ instP x.1 x.2 r l
theorem instP_nil (b off l : Int) : instP b off [] l = if b <= l - off /\ l - off < 52596000 then [l - off] else []:=rfl
theorem instP_cons (b off : Int) (x : Int × Int) (r : List (Int × Int)) (l : Int) : instP b off (x :: r) l = (if b <= l - off /\ l - off < x.1 then [l - off] else []) ++ instP x.1 x.2 r l:=rfl
theorem mem_instP : ∀ (sh : List (Int × Int)) (m b off l t : Int),Asc m sh -> b <= m ∨ sh = [] -> (t ∈ instP b off sh l ↔ b <= t /\ t < 52596000 /\ offAt off sh t = l - t)
 | [],_,b,off,l,t,_,_ => by
  rw [instP_nil];show _ ↔ b <= t /\ t < 52596000 /\ off = l - t
  split
  ·rw [List.mem_singleton];omega
  ·constructor
   ·intro h;cases h
   ·omega
 | x :: r,m,b,off,l,t,⟨h1,h0,h3,_,_,h2⟩,hb => by
  have hb : b <= m:=by rcases hb with h | h;exact h;cases h
  rw [instP_cons,List.mem_append,mem_instP r (x.1 + 2880) x.1 x.2 l t h2 (.inl (by omega)),offAt_cons];by_cases ht : x.1 <= t
  ·rw [if_pos ht];constructor
   ·rintro (h | h)
    ·split at h
     ·rw [List.mem_singleton] at h;omega
     ·cases h
    ·exact ⟨by omega,h.2⟩
   ·intro h;exact .inr ⟨ht,h.2⟩
  ·rw [if_neg ht,offAt_before r _ off t h2 (by omega)];constructor
   ·rintro (h | h)
    ·split at h
     ·rw [List.mem_singleton] at h;omega
     ·cases h
    ·omega
   ·rintro ⟨g1,g2,g3⟩;left;rw [if_pos (by omega),List.mem_singleton];omega
theorem inst_far (off : Int) (sh : List (Int × Int)) (l : Int) (h : Asc 0 sh) (h1 : -840 <= off) (h2 : off <= 840) (hl : l < -840 ∨ 52596840 <= l) : instP 0 off sh l = []:=by
 cases hh : instP 0 off sh l with
 | nil => rfl
 | cons t r =>
  have : t ∈ instP 0 off sh l:=by rw [hh];simp
  rw [mem_instP sh 0 0 off l t h (.inl (Int.le_refl _))] at this;have:=offAt_near sh 0 off t h h1 h2;omega
def gapP : Int -> List (Int × Int) -> Int -> Int × Int
 | _,[],_ => (0,3)
 | off,x :: r,l => if x.1 + off <= l /\ l < x.1 + x.2 then (if instB (l - off) = true then (l - off,0) else (0,3)) else gapP x.2 r l
def resV (code : Bool) (off : Int) (sh : List (Int × Int)) (l : Int) : Int × Int :=
 if zoneV code off sh ≠ 0 then (0,zoneV code off sh) else match instP 0 off sh l with
  | t :: _ => (t,0)
  | [] => gapP off sh l
theorem zoneV_zero (code : Bool) (off : Int) (sh : List (Int × Int)) (h : zoneV code off sh = 0) : code = true /\ -840 <= off /\ off <= 840 /\ (sh.length : Int) <= 64 /\ shV none off sh = 0 /\ Asc 0 sh:=by
 unfold zoneV at h;split at h
 ·cases h
 ·rename_i g1
  split at h
  ·cases h
  ·rename_i g2
   split at h
   ·cases h
   ·rename_i g3
    simp only [Bool.not_eq_false,nearB_iff] at g2;exact ⟨by simpa using g1,g2.1,g2.2,by omega,h,asc_of sh none off 0 h (fun q hq => by cases hq) (fun _ => Int.le_refl _)⟩
theorem asc_get : ∀ (sh : List (Int × Int)) (m : Int) (k : Nat) (x : Int × Int),Asc m sh -> sh[k]? = some x -> 0 <= x.1 /\ x.1 < 52596000 /\ -840 <= x.2 /\ x.2 <= 840
 | [],_,_,_,_,h => by simp at h
 | y :: r,_,0,x,⟨_,h2,h3,h4,h5,_⟩,h => by simp at h;subst h;exact ⟨h2,h3,h4,h5⟩
 | y :: r,_,k + 1,x,⟨_,_,_,_,_,h6⟩,h => asc_get r _ k x h6 (by simpa using h)
def instV (code : Bool) (off : Int) (sh : List (Int × Int)) (l : Int) : List Int:=if zoneV code off sh ≠ 0 then [] else instP 0 off sh l
theorem resV_bad (code : Bool) (off : Int) (sh : List (Int × Int)) (l : Int) (h : zoneV code off sh ≠ 0) : resV code off sh l = (0,zoneV code off sh):=if_pos h
theorem resV_hit (code : Bool) (off : Int) (sh : List (Int × Int)) (l t : Int) (r : List Int) (h : zoneV code off sh = 0) (h2 : instP 0 off sh l = t :: r) : resV code off sh l = (t,0):=by
 unfold resV;rw [if_neg (by simp [h]),h2]
theorem resV_gap (code : Bool) (off : Int) (sh : List (Int × Int)) (l : Int) (h : zoneV code off sh = 0) (h2 : instP 0 off sh l = []) : resV code off sh l = gapP off sh l:=by
 unfold resV;rw [if_neg (by simp [h]),h2]
theorem gapP_at (v : Int) (sh : List (Int × Int)) (l of : Int) (k : Nat) (x : Int × Int) (hx : sh[k]? = some x) (h : gapP v sh l = gapP of (sh.drop k) l) :
  gapP v sh l = if x.1 + of <= l /\ l < x.1 + x.2 then (if instB (l - of) = true then (l - of,0) else (0,3)) else gapP x.2 (sh.drop (k + 1)) l:=by
 obtain ⟨g1,g2⟩:=List.getElem?_eq_some_iff.1 hx;rw [h,List.drop_eq_getElem_cons g1,g2];rfl
end Tt
namespace Go.Proofs.YtageielcdebjlaaGreatDoor
open Go.RowKit
theorem near121 (n : Int) (w : World) : Calls Tryz.prog 121 #[.int .i64 n] w fun e w' => e = .returned (.bool (Tt.nearB n)) /\ w' = w:=by
 have HD:=Lh (show Tt.nearB n = (decide (-840 <= n) && decide (n <= 840)) from rfl);go_enter Tryz.func121,Tryz.ntmps121;go_wp2_with fail
 all_goals
  go_ret;exact ⟨ret_bool (by rw [HD.out];simp;omega),rfl⟩
theorem inst122 (n : Int) (w : World) : Calls Tryz.prog 122 #[.int .i64 n] w fun e w' => e = .returned (.bool (Tt.instB n)) /\ w' = w:=by
 have HD:=Lh (show Tt.instB n = (decide (0 <= n) && decide (n < 52596000)) from rfl);go_enter Tryz.func122,Tryz.ntmps122;go_wp2_with fail
 all_goals
  go_ret;exact ⟨ret_bool (by rw [HD.out];simp;omega),rfl⟩
def ZoneB (f : Nat) (n : ByteArray) (v : Int) (ev : Value) (w : World) : Prop:=w.heap[f]? = some (.cells #[.string n,.int .i64 v,ev] 50 (0,0))
theorem ZoneB.block {f : Nat} {n : ByteArray} {v : Int} {ev : Value} {w w' : World} (h : ZoneB f n v ev w) (hw : w'.heap[f]? = w.heap[f]?) : ZoneB f n v ev w':=hw.trans h
theorem ZoneB.lt {f : Nat} {n : ByteArray} {v : Int} {ev : Value} {w : World} (h : ZoneB f n v ev w) : f < w.heap.size:=(Array.getElem?_eq_some_iff.1 h).1
theorem ZoneB.c {f : Nat} {n : ByteArray} {v : Int} {ev : Value} {w : World} (h : ZoneB f n v ev w) :
  w.cell? ⟨f,0,none⟩ = some (.string n) /\ w.cell? ⟨f,1,none⟩ = some (.int .i64 v) /\ w.cell? ⟨f,2,none⟩ = some ev:=by
 refine ⟨?_,?_,?_⟩ <;> (rw [Lib.cell_of_heap h];rfl)
def Shs (B : Nat) (w : World) (ao : Option Addr) (sh : List (Int × Int)) : Prop:=sh = [] ∨ ∃ b o,ao = some ⟨b,o,none⟩ /\ b < B /\ ∀ (j : Nat) (x : Int × Int),sh[j]? = some x -> w.cell? ⟨b,o + j * 2,none⟩ = some (.int .i64 x.1) /\ w.cell? ⟨b,o + j * 2 + 1,none⟩ = some (.int .i64 x.2)
theorem Shs.below {B : Nat} {w w' : World} {ao : Option Addr} {sh : List (Int × Int)} (h : Shs B w ao sh) (hw : Below B w w') : Shs B w' ao sh:=by
 rcases h with h | ⟨b,o,ha,hb,hc⟩
 ·exact .inl h
 ·refine .inr ⟨b,o,ha,hb,fun j x hj => ?_⟩;obtain ⟨h1,h2⟩:=hc j x hj;exact ⟨(hw.cell (p:=⟨b,_,none⟩) hb).trans h1,(hw.cell (p:=⟨b,_,none⟩) hb).trans h2⟩
theorem Shs.mono {B B' : Nat} {w : World} {ao : Option Addr} {sh : List (Int × Int)} (h : Shs B w ao sh) (hB : B <= B') : Shs B' w ao sh:=by
 rcases h with h | ⟨b,o,ha,hb,hc⟩
 ·exact .inl h
 ·exact .inr ⟨b,o,ha,by omega,hc⟩
theorem Shs.form {B : Nat} {w : World} {ao : Option Addr} {sh : List (Int × Int)} (h : Shs B w ao sh) (hne : 0 < sh.length) :
  ∃ b o,ao = some ⟨b,o,none⟩ /\ b < B /\ ∀ (j : Nat) (x : Int × Int),sh[j]? = some x -> w.cell? ⟨b,o + j * 2,none⟩ = some (.int .i64 x.1) /\ w.cell? ⟨b,o + j * 2 + 1,none⟩ = some (.int .i64 x.2):=by
 rcases h with h | h
 ·rw [h] at hne;cases hne
 ·exact h
theorem zone59 (n : ByteArray) (v : Int) (sh : List (Int × Int)) (ao : Option Addr) (c : Nat) (B : Nat) (w : World) (hB : B <= w.heap.size) (hE : Shs B w ao sh) (hn : sh.length <= 4611686018427387903) :
  Calls Tryz.prog 59 #[.agg #[.string n,.int .i64 v,.slice ao sh.length c]] w fun e w' => e = .returned (.int .i64 (Tt.zoneV (Tt.code n.data.toList) v sh)) /\ Below w.heap.size w w':=by
 have HE:=Lh hE;clear hE;have HZ:=Lh (show Tt.zoneV (Tt.code n.data.toList) v sh = if Tt.code n.data.toList = false then 10 else if Tt.nearB v = false then 3 else if 64 < (sh.length : Int) then 2 else Tt.shV none v sh from rfl);cases hc : Tt.code n.data.toList
 ·have HC:=Lh hc;rw [hc] at HZ;clear hc;go_enter Tryz.func59,Tryz.ntmps59;go_wp2_with (go_at_call 94;refine (code_any _ _).mono ?_;rintro e w' ⟨rfl,rfl⟩;rw [HC.out]);go_ret;exact ⟨ret_int HZ.out.symm,below_box _ _⟩
 ·have HC:=Lh hc;rw [hc] at HZ;clear hc;cases hv : Tt.nearB v
  ·have HV:=Lh hv;have HZ1:=Lh (HZ.out.trans ((if_neg (by simp)).trans (if_pos hv)));clear hv;go_enter Tryz.func59,Tryz.ntmps59;go_wp2_with (first | (go_at_call 94;refine (code_any _ _).mono ?_;rintro e w' ⟨rfl,rfl⟩;rw [HC.out]) | (go_at_call 121;refine (near121 _ _).mono ?_;rintro e w' ⟨rfl,rfl⟩;rw [HV.out]));go_ret;exact ⟨ret_int HZ1.out.symm,below_box _ _⟩
  ·have hvb:=(Tt.nearB_iff v).1 hv;have HV:=Lh hv;have HZ1:=Lh (HZ.out.trans ((if_neg (by simp)).trans (if_neg (by simp [hv]))));clear hv;have vn1 : ¬ v < -840:=by omega
   have vn2 : ¬ 840 < v:=by omega
   by_cases h2 : 64 < (sh.length : Int)
   ·have HZ2:=Lh (HZ1.out.trans (if_pos h2));go_enter Tryz.func59,Tryz.ntmps59;go_wp2_with (first | (go_at_call 94;refine (code_any _ _).mono ?_;rintro e w' ⟨rfl,rfl⟩;rw [HC.out]) | (go_at_call 121;refine (near121 _ _).mono ?_;rintro e w' ⟨rfl,rfl⟩;rw [HV.out]));go_ret;exact ⟨ret_int HZ2.out.symm,below_box _ _⟩
   ·have HZ2:=Lh (HZ1.out.trans (if_neg h2));have F0 : ZoneB w.heap.size n v (.slice ao sh.length c) (w.alloc (.cells #[.string n,.int .i64 v,.slice ao sh.length c] 50)):=heap_alloc_new w _;have HF0:=Lh F0;clear F0;go_enter Tryz.func59,Tryz.ntmps59;go_wp2_with (first | (go_at_call 94;refine (code_any _ _).mono ?_;rintro e w' ⟨rfl,rfl⟩;rw [HC.out]) | (go_at_call 121;refine (near121 _ _).mono ?_;rintro e w' ⟨rfl,rfl⟩;rw [HV.out]));go_loopw [3,26] (fun ov iv wr => ∃ k : Nat,ov = .int .i64 (Tt.offs v sh k) /\ iv = .int .i64 k /\ k <= sh.length /\ -840 <= Tt.offs v sh k /\ Tt.offs v sh k <= 840 /\ Below w.heap.size w wr /\ Hid (ZoneB w.heap.size n v (.slice ao sh.length c) wr) /\ Hid (Tt.shV none v sh = Tt.shF v sh k) /\ Hid (∀ j x,k = j + 1 -> sh[j]? = some x -> 0 <= x.1 /\ x.1 < 52596000)) (fun _ iv _ => sh.length - (intOf iv).toNat)
    case atStart => exact ⟨0,rfl,rfl,Nat.zero_le _,hvb.1,hvb.2,below_box _ _,HF0.out,rfl,fun j x h => by omega⟩
    case round =>
     obtain ⟨k,rfl,rfl,hk,ho1,ho2,hbe,HF,HK,HP⟩:=hrel;obtain ⟨f0,f1,f2⟩:=HF.out.c;have hsz:=HF.out.lt;obtain ⟨of,hof⟩ : ∃ of,of = Tt.offs v sh k:=⟨_,rfl⟩
     rw [<- hof] at ho1 ho2 ⊢;have HOF:=Lh hof;clear hof;by_cases hlt : k < sh.length
     ·obtain ⟨x,hx⟩ : ∃ x,sh[k]? = some x:=⟨_,List.getElem?_eq_getElem hlt⟩
      obtain ⟨b,o,ha,hb,hev⟩:=HE.out.form (by omega);subst ha;obtain ⟨a0,a1⟩:=hev k x hx;have c0:=(hbe.cell (p:=⟨b,o + k * 2,none⟩) (by simp;omega)).trans a0;have c1:=(hbe.cell (p:=⟨b,o + k * 2 + 1,none⟩) (by simp;omega)).trans a1;clear a0 a1;have HEV:=Lh hev;have hki : (k : Int) < (sh.length : Int):=by omega
      have HSTEP:=Lh (HK.out.trans (Tt.shF_cons v sh k x hx));have HOS:=Lh (Tt.offs_succ v sh k x hx);rw [<- HOF.out] at HSTEP;have HX:=Lh hx;clear hev hx;obtain ⟨at1,of1⟩:=x;simp only at c0 c1 HSTEP HOS;by_cases hb1 : (Tt.instB at1 && Tt.nearB of1) = false
      ·have HR:=Lh (HZ2.out.trans (HSTEP.out.trans (if_pos hb1)));have HB1:=Lh hb1;clear hb1;cases hi : Tt.instB at1
       ·have HI:=Lh hi;clear hi;go_wp2_with (go_at_call 122;refine (inst122 _ _).mono ?_;rintro e w' ⟨rfl,rfl⟩;rw [HI.out]);go_ret;exact ⟨ret_int HR.out.symm,hbe.trans ((below_box wr _).mono hbe.size)⟩
       ·have HI:=Lh hi;have HN:=Lh (show Tt.nearB of1 = false by rw [hi] at HB1;simpa using HB1.out);clear hi;go_wp2_with (first | (go_at_call 122;refine (inst122 _ _).mono ?_;rintro e w' ⟨rfl,rfl⟩;rw [HI.out]) | (go_at_call 121;refine (near121 _ _).mono ?_;rintro e w' ⟨rfl,rfl⟩;rw [HN.out]));go_ret;exact ⟨ret_int HR.out.symm,hbe.trans ((below_box wr _).mono hbe.size)⟩
      ·have HST2:=Lh (HSTEP.out.trans (if_neg hb1));simp only [Bool.not_eq_false,Bool.and_eq_true] at hb1;have HI:=Lh hb1.1;have HN:=Lh hb1.2;obtain ⟨g1,g2⟩:=(Tt.instB_iff at1).1 hb1.1;obtain ⟨g3,g4⟩:=(Tt.nearB_iff of1).1 hb1.2;have n1 : ¬ at1 < 0:=by omega
       have n2 : ¬ 52596000 <= at1:=by omega
       have n3 : ¬ of1 < -840:=by omega
       have n4 : ¬ 840 < of1:=by omega
       clear hb1;go_wp2_with (first | (go_at_call 122;refine (inst122 _ _).mono ?_;rintro e w' ⟨rfl,rfl⟩;rw [HI.out]) | (go_at_call 121;refine (near121 _ _).mono ?_;rintro e w' ⟨rfl,rfl⟩;rw [HN.out]));cases k with
       | zero =>
        have HST3:=Lh (HST2.out.trans (if_neg (by show ¬ (false = true);simp)));go_quiet (fail)
        obtain ⟨w2,hw2,hB2,hC2,hH2⟩:=redrew (wr.alloc (.cells #[.int .i64 at1,.int .i64 of1] 137)) nq;have hb0:=below_box wr (.cells #[.int .i64 at1,.int .i64 of1] 137);have hbe2:=(below_then hbe hb0).trans (hB2 _);have s0 : w2.cell? ⟨wr.heap.size,0,none⟩ = some (.int .i64 at1):=(hC2 _).trans (by rw [Lib.cell_of_heap (heap_alloc_new wr _)];rfl);have s1 : w2.cell? ⟨wr.heap.size,1,none⟩ = some (.int .i64 of1):=(hC2 _).trans (by rw [Lib.cell_of_heap (heap_alloc_new wr _)];rfl);have HF2:=Lh (HF.out.block ((hH2 _).trans (hb0.block _ hsz)));obtain ⟨f0,f1,f2⟩:=HF2.out.c;rw [<- hw2];clear hw2 hB2 hC2 hH2 hb0 c0 c1;by_cases hj : of1 = of ∨ of + 180 < of1 ∨ of1 < of - 180
        ·have HR:=Lh (HZ2.out.trans (HST3.out.trans (if_pos hj)));by_cases j1 : of1 = of
         ·have t1 : (of1 == of) = true:=beq_iff_eq.2 j1;clear hj j1;go_wp2_with fail;go_ret;exact ⟨ret_int HR.out.symm,hbe2⟩
         ·have t1 : (of1 == of) = false:=beq_eq_false_iff_ne.2 j1;by_cases j2 : of + 180 < of1
          ·clear hj j1;go_wp2_with fail;go_ret;exact ⟨ret_int HR.out.symm,hbe2⟩
          ·have j3 : of1 < of - 180:=by omega
           clear hj j1;go_wp2_with fail;go_ret;exact ⟨ret_int HR.out.symm,hbe2⟩
        ·have HR:=Lh (show Tt.shV none v sh = Tt.shF v sh (0 + 1) from HST3.out.trans (if_neg hj));have t1 : (of1 == of) = false:=beq_eq_false_iff_ne.2 (by omega);have j2 : ¬ of + 180 < of1:=by omega
         have j3 : ¬ of1 < of - 180:=by omega
         clear hj;go_wp2_with fail;go_roundw
         case rel => exact ⟨0 + 1,by rw [HOS.out],by go_num,by omega,by rw [HOS.out];omega,by rw [HOS.out];omega,hbe2,HF2.out,HR.out,fun j' x' h' hx' => by
          obtain rfl : 0 = j':=by omega
          rw [HX.out] at hx';cases hx';exact ⟨g1,g2⟩⟩
         case measure => simp [intOf];omega
       | succ j =>
        obtain ⟨p,hp⟩ : ∃ p,sh[j]? = some p:=⟨_,List.getElem?_eq_getElem (by omega)⟩
        obtain ⟨p1,p2⟩:=HP.out j p rfl hp;have q0:=(hbe.cell (p:=⟨b,o + j * 2,none⟩) (by simp;omega)).trans (HEV.out j p hp).1;have HPA:=Lh (Tt.prevA_succ sh j p hp);have q0:=((below_box wr (.cells #[.int .i64 at1,.int .i64 of1] 137)).cell (p:=⟨b,o + j * 2,none⟩) (by have:=hbe.size;simp;omega)).trans q0;clear hp;obtain ⟨pa,po⟩:=p;simp only at q0 p1 p2 HPA;have hj2 : (j : Int) < (sh.length : Int):=by omega
        have hj3 : (0 : Int) <= (j : Int) + 1 - 1:=by omega
        have hj4 : (j : Int) + 1 - 1 < (sh.length : Int):=by omega
        have hj5 : ((j : Int) + 1 - 1).toNat = j:=by omega
        have hj6 : (0 : Int) < (j : Int) + 1:=by omega
        have hj7 : IntKind.i64.wrap ((j : Int) + 1 - 1) = (j : Int) + 1 - 1:=by rw [IntKind.wrap_i64];omega
        have hwp : IntKind.i64.wrap (pa + 2880) = pa + 2880:=by rw [IntKind.wrap_i64];omega
        by_cases hl : at1 < pa + 2880
        ·have HR:=Lh (HZ2.out.trans (HST2.out.trans (if_pos (by rw [HPA.out];show decide _ = true;simpa using hl))));go_quiet (fail);clear hwp;go_wp2_with fail;go_ret;exact ⟨ret_int HR.out.symm,below_drew (hbe.trans ((below_box wr _).mono hbe.size))⟩
        ·have HST3:=Lh (HST2.out.trans (if_neg (by rw [HPA.out];show ¬ (decide _ = true);simpa using hl)));go_quiet (fail);obtain ⟨w2,hw2,hB2,hC2,hH2⟩:=redrew (wr.alloc (.cells #[.int .i64 at1,.int .i64 of1] 137)) nq;have hb0:=below_box wr (.cells #[.int .i64 at1,.int .i64 of1] 137);have hbe2:=(below_then hbe hb0).trans (hB2 _);have s0 : w2.cell? ⟨wr.heap.size,0,none⟩ = some (.int .i64 at1):=(hC2 _).trans (by rw [Lib.cell_of_heap (heap_alloc_new wr _)];rfl);have s1 : w2.cell? ⟨wr.heap.size,1,none⟩ = some (.int .i64 of1):=(hC2 _).trans (by rw [Lib.cell_of_heap (heap_alloc_new wr _)];rfl);have HF2:=Lh (HF.out.block ((hH2 _).trans (hb0.block _ hsz)));obtain ⟨f0,f1,f2⟩:=HF2.out.c;rw [<- hw2];clear hw2 hB2 hC2 hH2 hb0 c0 c1 q0 hwp;by_cases hj : of1 = of ∨ of + 180 < of1 ∨ of1 < of - 180
         ·have HR:=Lh (HZ2.out.trans (HST3.out.trans (if_pos hj)));by_cases j1 : of1 = of
          ·have t1 : (of1 == of) = true:=beq_iff_eq.2 j1;clear hj j1;go_wp2_with fail;go_ret;exact ⟨ret_int HR.out.symm,hbe2⟩
          ·have t1 : (of1 == of) = false:=beq_eq_false_iff_ne.2 j1;by_cases j2 : of + 180 < of1
           ·clear hj j1;go_wp2_with fail;go_ret;exact ⟨ret_int HR.out.symm,hbe2⟩
           ·have j3 : of1 < of - 180:=by omega
            clear hj j1;go_wp2_with fail;go_ret;exact ⟨ret_int HR.out.symm,hbe2⟩
         ·have HR:=Lh (show Tt.shV none v sh = Tt.shF v sh ((j + 1) + 1) from HST3.out.trans (if_neg hj));have t1 : (of1 == of) = false:=beq_eq_false_iff_ne.2 (by omega);have j2 : ¬ of + 180 < of1:=by omega
          have j3 : ¬ of1 < of - 180:=by omega
          clear hj;go_wp2_with fail;go_roundw
          case rel => exact ⟨(j + 1) + 1,by rw [HOS.out],by go_num,by omega,by rw [HOS.out];omega,by rw [HOS.out];omega,hbe2,HF2.out,HR.out,fun j' x' h' hx' => by
           obtain rfl : (j + 1) = j':=by omega
           rw [HX.out] at hx';cases hx';exact ⟨g1,g2⟩⟩
          case measure => simp [intOf];omega
     ·have hki : ¬ (k : Int) < (sh.length : Int):=by omega
      have HR:=Lh (HZ2.out.trans (HK.out.trans (Tt.shF_end v sh k (by omega))));go_wp2_with fail;go_ret;exact ⟨ret_int HR.out.symm,hbe⟩
end Go.Proofs.YtageielcdebjlaaGreatDoor
