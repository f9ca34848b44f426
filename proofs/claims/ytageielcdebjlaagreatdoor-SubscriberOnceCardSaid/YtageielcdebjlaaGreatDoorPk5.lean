/- Plain facts on the order of identifiers, and on valid lists of events. No program in sight. Condition: none. subscriber.find with slices.BinarySearchFunc: its contract. Plain facts: a binary search over ascending identifiers finds what Find finds. No program in sight. Condition: none. Plain facts on merging: the place of a search is the place of Put; the fold over a feed's events; the merged list stays valid. No program in sight. Condition: none. Grids and times of a week: timegrid.Valid, Sound, Week, Fits, weekset.Valid, and the reference's. Terms: calendar.Valid, At, Days, and the reference's. -/
import Derived.Test.YtageielcdebjlaaGreatDoorPk4
import Derived.Sort.Walk0
import Derived.Test.YtageielcdebjlaaGreatDoorPk2
import Derived.BigQuiet
set_option maxRecDepth 100000
set_option maxHeartbeats 40000000
namespace Go.Proofs.YtageielcdebjlaaGreatDoor
open Go.RowKit
theorem lessU_iff (a b : ByteArray) : lessU a b = true ↔ a.toList < b.toList:=by unfold lessU;rw [bytesLess_eq];simp
theorem lessU_trans {a b c : ByteArray} (h : lessU a b = true) (k : lessU b c = true) : lessU a c = true:=by
 rw [lessU_iff] at *;exact List.lt_trans h k
theorem lessU_irrefl (a : ByteArray) : lessU a a = false:=by
 rw [<- Bool.not_eq_true,lessU_iff];exact List.lt_irrefl _
theorem late_less {p u : ByteArray} (h : lateU (some p) u = false) : lessU p u = true:=by
 have h : (Op.bytesLess u.toList p.toList || u.toList == p.toList) = false:=h;rw [Bool.or_eq_false_iff] at h;obtain ⟨h1,h2⟩:=h;rw [bytesLess_eq,decide_eq_false_iff_not] at h1;rw [beq_eq_false_iff_ne] at h2;rw [lessU_iff];exact Std.lt_of_le_of_ne (List.not_lt.1 h1) (fun e => h2 e.symm)
def UpU (es : List Ev) : Prop:=∀ (i j : Nat) (a b : Ev),i < j -> es[i]? = some a -> es[j]? = some b -> lessU a.uid b.uid = true
theorem evsV_head (v : Int) (p : ByteArray) (es : List Ev) (h : evsV v (some p) es = 0) : ∀ (j : Nat) (b : Ev),es[j]? = some b -> lessU p b.uid = true:=by
 induction es generalizing p with
 | nil => intro j b hb;simp at hb
 | cons e r ih =>
  intro j b hb;unfold evsV at h;split at h
  ·cases h
  ·split at h
   ·cases h
   ·rename_i h2
    have hp:=late_less (by simpa using h2);split at h
    ·rename_i h3;exact absurd h h3
    ·cases j with
     | zero => simp at hb;subst hb;exact hp
     | succ j => exact lessU_trans hp (ih e.uid h j b (by simpa using hb))
theorem evsV_up (v : Int) (p : Option ByteArray) (es : List Ev) (h : evsV v p es = 0) : UpU es:=by
 induction es generalizing p with
 | nil => intro i j a b _ ha;simp at ha
 | cons e r ih =>
  unfold evsV at h;split at h
  ·cases h
  ·split at h
   ·cases h
   ·split at h
    ·rename_i h3;exact absurd h h3
    ·intro i j a b hij ha hb;cases j with
     | zero => omega
     | succ j =>
      have hb : r[j]? = some b:=by simpa using hb
      cases i with
      | zero => simp at ha;subst ha;exact evsV_head v e.uid r h j b hb
      | succ i => exact ih (some e.uid) h i j a b (by omega) (by simpa using ha) hb
theorem less_late {p u : ByteArray} (h : lessU p u = true) : lateU (some p) u = false:=by
 rw [lessU_iff] at h;show (Op.bytesLess u.toList p.toList || u.toList == p.toList) = false
 rw [Bool.or_eq_false_iff,bytesLess_eq,decide_eq_false_iff_not,beq_eq_false_iff_ne];exact ⟨fun k => List.lt_irrefl _ (List.lt_trans h k),fun e => by rw [e] at h;exact List.lt_irrefl _ h⟩
theorem not_less_late {s u : ByteArray} (h : lessU s u = false) (hne : ¬ s = u) : lateU (some u) s = false:=by
 show (Op.bytesLess s.toList u.toList || s.toList == u.toList) = false
 rw [Bool.or_eq_false_iff];exact ⟨h,text_ne hne⟩
theorem evsV_cons (v : Int) (p : Option ByteArray) (e : Ev) (r : List Ev) : evsV v p (e :: r) = 0 ↔ rightB e.uid.data.toList = true /\ lateU p e.uid = false /\ checkV e v = 0 /\ evsV v (some e.uid) r = 0:=by
 rw [evsV];constructor
 ·intro h;split at h
  ·cases h
  ·rename_i h1
   split at h
   ·cases h
   ·rename_i h2
    split at h
    ·rename_i h3;exact absurd h h3
    ·rename_i h3;exact ⟨by simpa using h1,by simpa using h2,by simpa using h3,h⟩
 ·rintro ⟨h1,h2,h3,h4⟩;rw [if_neg (by rw [h1];simp),if_neg (by rw [h2];simp),if_neg (by rw [h3];simp)];exact h4
theorem evsV_put (v : Int) (e : Ev) (hr : rightB e.uid.data.toList = true) (hc : checkV e v = 0) : ∀ (es : List Ev) (p : Option ByteArray),lateU p e.uid = false -> evsV v p es = 0 -> evsV v p (putE e es) = 0
 | [],p,hp,_ => by
  show evsV v p [e] = 0
  exact (evsV_cons v p e []).2 ⟨hr,hp,hc,by rw [evsV]⟩
 | s :: r,p,hp,h => by
  obtain ⟨h1,h2,h3,h4⟩:=(evsV_cons v p s r).1 h;unfold putE;by_cases k1 : lessU s.uid e.uid = true
  ·rw [if_pos k1];exact (evsV_cons v p s _).2 ⟨h1,h2,h3,evsV_put v e hr hc r (some s.uid) (less_late k1) h4⟩
  ·rw [if_neg k1];by_cases k2 : s.uid = e.uid
   ·rw [if_pos k2];exact (evsV_cons v p e r).2 ⟨hr,hp,hc,by rw [<- k2];exact h4⟩
   ·rw [if_neg k2];exact (evsV_cons v p e _).2 ⟨hr,hp,hc,(evsV_cons v _ s r).2 ⟨h1,not_less_late (by simpa using k1) k2,h3,h4⟩⟩
theorem checkV_mono {e : Ev} {v v' : Int} (h : checkV e v = 0) (hv : v <= v') : checkV e v' = 0:=by
 unfold checkV at h ⊢;by_cases h1 : e.seq < 1 ∨ v < e.seq
 ·rw [if_pos h1] at h;cases h
 ·rw [if_neg h1] at h;rw [if_neg (by omega)];exact h
theorem evsV_mono {v v' : Int} (hv : v <= v') : ∀ (es : List Ev) (p : Option ByteArray),evsV v p es = 0 -> evsV v' p es = 0
 | [],_,_ => by rw [evsV]
 | s :: r,p,h => by
  obtain ⟨h1,h2,h3,h4⟩:=(evsV_cons v p s r).1 h;exact (evsV_cons v' p s r).2 ⟨h1,h2,checkV_mono h3 hv,evsV_mono hv r _ h4⟩
theorem UpU.first {es : List Ev} (h : UpU es) {i j : Nat} {a b : Ev} {u : ByteArray} (hij : i <= j) (ha : es[i]? = some a) (hb : es[j]? = some b) (hl : lessU b.uid u = true) : lessU a.uid u = true:=by
 rcases Nat.lt_or_eq_of_le hij with k | k
 ·exact lessU_trans (h i j a b k ha hb) hl
 ·subst k;rw [ha] at hb;cases hb;exact hl
def cmpU (a b : ByteArray) : Int:=Lib.compareBytes a.data.toList b.data.toList
theorem cmp155 (e : Ev) (u : ByteArray) (p p2 : Option Addr) (n n2 c c2 : Nat) (w : World) :
  Calls Tryz.prog 155 #[evVal e (.slice p n c) (.slice p2 n2 c2),.string u] w fun x w' => x = .returned (.int .i64 (cmpU e.uid u)) /\ Below w.heap.size w w':=by
 have HC : Hid (∀ W,Calls Tryz.prog 130 #[.string e.uid,.string u] W fun x w' => x = .returned (.int .i64 (cmpU e.uid u)) /\ w' = W):=Lh (fun W => Tryz.strings_Compare e.uid u W);unfold evVal evCells;go_enter Tryz.func155,Tryz.ntmps155;go_wp2_with fail;refine (HC.out _).mono ?_;rintro x w1 ⟨rfl,hw⟩;rw [hw];clear hw w1;go_wp2_with fail;go_ret;exact ⟨rfl,below_box _ _⟩
def ahead (es : List Ev) (u : ByteArray) (k : Nat) : Prop:=∃ e,es[k]? = some e /\ cmpU e.uid u < 0
def Sought (es : List Ev) (u : ByteArray) (w : World) (x : Ending) (w' : World) : Prop:=∃ (i : Nat) (f : Bool),x = .returned (.tuple #[.int .i64 i,.bool f]) /\ i <= es.length /\ (∀ k,k < i -> ahead es u k) /\ (∀ k,i <= k -> ¬ ahead es u k) /\ (f = true ↔ ∃ e,es[i]? = some e /\ cmpU e.uid u = 0) /\ Below w.heap.size w w'
theorem search154 (es : List Ev) (u : ByteArray) (ao : Option Addr) (c : Nat) (w : World) (hE : Evs w.heap.size w ao es) (hn : es.length <= 1000000000) (hS : ∀ a b,a <= b -> ahead es u b -> ahead es u a) :
  Calls Tryz.prog 154 #[.slice ao es.length c,.string u,.func (.func 155) #[] #[]] w (Sought es u w):=by
 have HE:=Lh hE;have HS:=Lh hS;clear hE hS;obtain ⟨n,hne⟩ : ∃ n,n = es.length:=⟨_,rfl⟩
 rw [<- hne] at hn ⊢;have HN:=Lh hne;clear hne;have hni : (n : Int) <= 1000000000:=by omega
 go_enter Tryz.func154,Tryz.ntmps154;go_wp2_with fail;go_loopw [9,10] (fun iv jv wr => ∃ i j : Nat,iv = .int .i64 i /\ jv = .int .i64 j /\ i <= j /\ j <= n /\ Hid (∀ k,k < i -> ahead es u k) /\ Hid (∀ k,j <= k -> ¬ ahead es u k) /\ Hid (Below w.heap.size w wr)) (fun iv jv _ => (intOf jv - intOf iv).toNat)
 case atStart => exact ⟨0,n,rfl,rfl,Nat.zero_le _,Nat.le_refl _,Lh (fun k h => absurd h (Nat.not_lt_zero _)),Lh (fun k h ⟨e,he,_⟩ => by have:=(List.getElem?_eq_some_iff.1 he).1;rw [<- HN.out] at this;omega),Lh (Below.refl _ _)⟩
 case round =>
  obtain ⟨i,j,rfl,rfl,hij,hjn,HA,HZ,HL⟩:=hrel;by_cases hlt : i < j
  ·have hlti : (i : Int) < j:=by omega
   have hij2 : (i : Int) + j <= 2000000000:=by omega
   obtain ⟨h,hh⟩ : ∃ h : Nat,((i : Int) + j) / 2 = h:=⟨(i + j) / 2,by omega⟩
   have hhi : i <= h:=by omega
   have hhj : h < j:=by omega
   have hhn : (h : Int) < n:=by omega
   have hke : h < es.length:=by rw [<- HN.out];omega
   obtain ⟨g,o,hao,hg,hc⟩ : ∃ g o,ao = some ⟨g,o,none⟩ /\ g < w.heap.size /\ ∀ (j : Nat) (e : Ev),es[j]? = some e -> EvB e /\ ∃ v v',EvC g (o + j * 13) e v v' w /\ SlI w.heap.size w v e.days.ex /\ SlI w.heap.size w v' e.days.xt:=by
    rcases HE.out with h | h
    ·exfalso;rw [h] at hke;simp at hke
    ·exact h
   subst hao;obtain ⟨-,v,v',hv,⟨px,kx,hx, -⟩,⟨py,ky,hy, -⟩⟩:=hc h _ (List.getElem?_eq_getElem hke);obtain ⟨e,hee⟩ : ∃ e,e = es[h]:=⟨_,rfl⟩
   rw [<- hee] at hv hx hy;have HX:=Lh (show es[h]? = some e from by rw [List.getElem?_eq_getElem hke,hee]);subst hx;subst hy;obtain ⟨c0,c1,c2,c3,c4,c5,c6,c7,c8,c9,c10,c11,c12⟩:=hv.below hg HL.out;clear hc hv hee;go_wp2_with fail;refine (cmp155 e u _ _ _ _ _ _ _).mono ?_;rintro x w1 ⟨rfl,hb1⟩;have HL1:=Lh (HL.out.trans (hb1.mono HL.out.size));clear hb1 c0 c1 c2 c3 c4 c5 c6 c7 c8 c9 c10 c11 c12 hh;by_cases hcmp : cmpU e.uid u < 0
   ·have HA1:=Lh (show ∀ k,k < h + 1 -> ahead es u k from fun k hk => HS.out k h (by omega) ⟨e,HX.out,hcmp⟩);go_wp2_with fail;go_roundw
    case rel => exact ⟨h + 1,j,by go_num,rfl,by omega,hjn,HA1,HZ,HL1⟩
    case measure => simp [intOf];omega
   ·have HZ1:=Lh (show ∀ k,h <= k -> ¬ ahead es u k from fun k hk ha => by
     obtain ⟨e2,he2,hlt2⟩:=HS.out h k hk ha;rw [HX.out] at he2;cases he2;exact hcmp hlt2)
    go_wp2_with fail;go_roundw
    case rel => exact ⟨i,h,rfl,rfl,by omega,by omega,HA,HZ1,HL1⟩
    case measure => simp [intOf];omega
  ·obtain rfl : i = j:=by omega
   by_cases hin : i < n
   ·have hini : (i : Int) < n:=by omega
    have hke : i < es.length:=by rw [<- HN.out];omega
    obtain ⟨g,o,hao,hg,hc⟩ : ∃ g o,ao = some ⟨g,o,none⟩ /\ g < w.heap.size /\ ∀ (j : Nat) (e : Ev),es[j]? = some e -> EvB e /\ ∃ v v',EvC g (o + j * 13) e v v' w /\ SlI w.heap.size w v e.days.ex /\ SlI w.heap.size w v' e.days.xt:=by
     rcases HE.out with h | h
     ·exfalso;rw [h] at hke;simp at hke
     ·exact h
    subst hao;obtain ⟨-,v,v',hv,⟨px,kx,hx, -⟩,⟨py,ky,hy, -⟩⟩:=hc i _ (List.getElem?_eq_getElem hke);obtain ⟨e,hee⟩ : ∃ e,e = es[i]:=⟨_,rfl⟩
    rw [<- hee] at hv hx hy;have HX:=Lh (show es[i]? = some e from by rw [List.getElem?_eq_getElem hke,hee]);subst hx;subst hy;obtain ⟨c0,c1,c2,c3,c4,c5,c6,c7,c8,c9,c10,c11,c12⟩:=hv.below hg HL.out;clear hc hv hee;go_wp2_with fail;refine (cmp155 e u _ _ _ _ _ _ _).mono ?_;rintro x w1 ⟨rfl,hb1⟩;have HL1:=Lh (HL.out.trans (hb1.mono HL.out.size));clear hb1 c0 c1 c2 c3 c4 c5 c6 c7 c8 c9 c10 c11 c12;have HF:=Lh (show ((cmpU e.uid u == 0) = true ↔ ∃ e2,es[i]? = some e2 /\ cmpU e2.uid u = 0) from by
     rw [beq_iff_eq];exact ⟨fun h => ⟨e,HX.out,h⟩,fun ⟨e2,h2,h3⟩ => by rw [HX.out] at h2;cases h2;exact h3⟩)
    go_wp2_with fail;go_ret2;exact ⟨i,_,rfl,by rw [<- HN.out];exact hjn,HA.out,HZ.out,HF.out,HL1.out⟩
   ·have hini : ¬ (i : Int) < n:=by omega
    have HF:=Lh (show (false = true ↔ ∃ e2,es[i]? = some e2 /\ cmpU e2.uid u = 0) from
     ⟨fun h => (by cases h),fun ⟨e2,h2,_⟩ => by have:=(List.getElem?_eq_some_iff.1 h2).1;rw [<- HN.out] at this;omega⟩)
    go_wp2_with fail;go_ret2;exact ⟨i,_,rfl,by rw [<- HN.out];exact hjn,HA.out,HZ.out,HF.out,HL.out⟩
theorem find81 (es : List Ev) (u : ByteArray) (ao : Option Addr) (c : Nat) (w : World) (hE : Evs w.heap.size w ao es) (hn : es.length <= 1000000000) (hS : ∀ a b,a <= b -> ahead es u b -> ahead es u a) :
  Calls Tryz.prog 81 #[.slice ao es.length c,.string u] w (Sought es u w):=by
 have HC:=Lh (search154 es u ao c w hE hn hS);clear hE hS;go_enter Tryz.func81,Tryz.ntmps81;go_wp2_with fail;refine HC.out.mono ?_;rintro x w1 ⟨i,f,rfl,h1,h2,h3,h4,h5⟩;have H:=Lh (And.intro h1 (And.intro h2 (And.intro h3 (And.intro h4 h5))));clear h1 h2 h3 h4 h5;go_wp2_with fail;go_ret2;exact ⟨i,f,rfl,H.out.1,H.out.2.1,H.out.2.2.1,H.out.2.2.2.1,H.out.2.2.2.2⟩
theorem findFrom_none (u : ByteArray) : ∀ (es : List Ev) (k : Int),(∀ e ∈ es,¬ e.uid = u) -> findFrom u es k = -1
 | [],_,_ => rfl
 | e :: r,k,h => by
  unfold findFrom;rw [if_neg (h e (List.mem_cons_self ..))];exact findFrom_none u r (k + 1) (fun a ha => h a (List.mem_cons_of_mem _ ha))
theorem findFrom_at (u : ByteArray) : ∀ (es : List Ev) (k : Int) (i : Nat) (e : Ev),es[i]? = some e -> e.uid = u -> (∀ j a,j < i -> es[j]? = some a -> ¬ a.uid = u) -> findFrom u es k = k + i
 | [],_,_,_,h,_,_ => by simp at h
 | s :: r,k,0,e,h,he,_ => by
  simp at h;subst h;unfold findFrom;rw [if_pos he];simp
 | s :: r,k,i + 1,e,h,he,hj => by
  unfold findFrom;rw [if_neg (hj 0 s (by omega) (by simp)),findFrom_at u r (k + 1) i e (by simpa using h) he (fun j a hja ha => hj (j + 1) a (by omega) (by simpa using ha))];omega
theorem compare_less : ∀ x y : List UInt8,(Lib.compareBytes x y < 0 ↔ x < y) /\ (Lib.compareBytes x y = 0 ↔ x = y)
 | [],[] => by simp [Lib.compareBytes]
 | [],_ :: _ => by simp [Lib.compareBytes]
 | _ :: _,[] => by simp [Lib.compareBytes]
 | a :: xs,b :: ys => by
  obtain ⟨h1,h2⟩:=compare_less xs ys;unfold Lib.compareBytes;by_cases k1 : a < b
  ·rw [if_pos k1];have hne : ¬ a = b:=fun e => by rw [e] at k1;exact absurd k1 (UInt8.lt_irrefl _)
   simp [List.cons_lt_cons_iff,k1,hne]
  ·rw [if_neg k1];by_cases k2 : b < a
   ·rw [if_pos k2];have hne : ¬ a = b:=fun e => by rw [e] at k2;exact absurd k2 (UInt8.lt_irrefl _)
    simp [List.cons_lt_cons_iff,k1,hne]
   ·rw [if_neg k2];have he : a = b:=UInt8.le_antisymm (UInt8.not_lt.1 k2) (UInt8.not_lt.1 k1);subst he;simp [h1,h2]
theorem cmpU_less (a b : ByteArray) : cmpU a b < 0 ↔ lessU a b = true:=by
 rw [lessU_iff,Lib.toList_data,Lib.toList_data];exact (compare_less _ _).1
theorem cmpU_same (a b : ByteArray) : cmpU a b = 0 ↔ a = b:=by
 unfold cmpU;rw [(compare_less _ _).2];exact ⟨fun h => ByteArray.ext (Array.toList_inj.mp h),fun h => by rw [h]⟩
theorem ahead_mono {es : List Ev} (h : UpU es) (u : ByteArray) : ∀ a b,a <= b -> ahead es u b -> ahead es u a:=by
 rintro a b hab ⟨e,he,hl⟩;have hb : b < es.length:=(List.getElem?_eq_some_iff.1 he).1;obtain ⟨s,hs⟩ : ∃ s,es[a]? = some s:=⟨_,List.getElem?_eq_getElem (by omega)⟩
 exact ⟨s,hs,(cmpU_less _ _).2 (h.first hab hs he ((cmpU_less _ _).1 hl))⟩
theorem sought_none {es : List Ev} {u : ByteArray} {i : Nat} (h : UpU es) (h1 : ∀ k,k < i -> ahead es u k) (h2 : ∀ k,i <= k -> ¬ ahead es u k) (hf : ¬ ∃ e,es[i]? = some e /\ cmpU e.uid u = 0) : findFrom u es 0 = -1:=by
 refine findFrom_none u es 0 (fun e he hu => ?_);obtain ⟨j,hj⟩:=List.mem_iff_getElem?.1 he;rcases Nat.lt_trichotomy j i with k | k | k
 ·obtain ⟨s,hs,hl⟩:=h1 j k;rw [hj] at hs;cases hs;rw [hu,(cmpU_same u u).2 rfl] at hl;exact absurd hl (by decide)
 ·subst k;exact hf ⟨e,hj,(cmpU_same _ _).2 hu⟩
 ·have hi : i < es.length:=by have:=(List.getElem?_eq_some_iff.1 hj).1;omega
  exact h2 i (Nat.le_refl _) ⟨es[i],List.getElem?_eq_getElem hi,(cmpU_less _ _).2 (by rw [<- hu];exact h i j _ _ k (List.getElem?_eq_getElem hi) hj)⟩
theorem sought_some {es : List Ev} {u : ByteArray} {i : Nat} {e : Ev} (h1 : ∀ k,k < i -> ahead es u k) (he : es[i]? = some e) (hc : cmpU e.uid u = 0) : findFrom u es 0 = i:=by
 rw [findFrom_at u es 0 i e he ((cmpU_same _ _).1 hc) (fun j a hj ha hu => ?_)]
 ·simp
 ·obtain ⟨s,hs,hl⟩:=h1 j hj;rw [ha] at hs;cases hs;rw [hu,(cmpU_same u u).2 rfl] at hl;exact absurd hl (by decide)
def noteN (c : Int) (e : Ev) (ns : List Nt) : List Nt:=if c = 0 then ns else ns ++ [⟨c,e.uid,e.seq⟩]
def stepM (s : List Ev × List Nt) (e : Ev) : List Ev × List Nt :=
 if findFrom e.uid s.1 0 < 0 then (putE e s.1,noteN (toldV true e.canc) e s.2)
 else match s.1[(findFrom e.uid s.1 0).toNat]? with
  | none => s
  | some o => if o.seq < e.seq then (putE e s.1,noteN (toldV o.canc e.canc) e s.2) else s
def mrg (es fs : List Ev) : List Ev × List Nt:=fs.foldl stepM (es,[])
def mergeV (rv tag : Int) (es : List Ev) (n : ByteArray) (v : Int) (fs : List Ev) : Int × Int × List Ev × List Nt × Int :=
 if rdOk rv es = false then (0,0,[],[],1)
 else if feedV n v fs ≠ 0 then (0,0,[],[],feedV n v fs)
 else if v <= rv then (rv,tag,es,[],0)
 else if 256 < ((mrg es fs).1.length : Int) then (0,0,[],[],2)
 else (v,tag,(mrg es fs).1,(mrg es fs).2,0)
theorem mrg_take (es fs : List Ev) (k : Nat) (e : Ev) (h : fs[k]? = some e) : mrg es (fs.take (k + 1)) = stepM (mrg es (fs.take k)) e:=by
 obtain ⟨h1,h2⟩:=List.getElem?_eq_some_iff.1 h;unfold mrg;rw [List.take_succ_eq_append_getElem h1,List.foldl_append,h2];rfl
theorem mrg_all (es fs : List Ev) : mrg es (fs.take fs.length) = mrg es fs:=by rw [List.take_length]
theorem ahead_T {ts : List (Ev × Value × Value)} {t : Ev × Value × Value} {i : Nat} (h1 : ∀ k,k < i -> ahead (ts.map (·.1)) t.1.uid k) : AheadT t ts i:=by
 intro j s hj hs;obtain ⟨e,he,hl⟩:=h1 j hj;rw [List.getElem?_map,hs] at he;cases he;exact (cmpU_less _ _).1 hl
theorem place_none {ts : List (Ev × Value × Value)} {t : Ev × Value × Value} {i : Nat} (hi : i <= ts.length) (h1 : ∀ k,k < i -> ahead (ts.map (·.1)) t.1.uid k) (h2 : ∀ k,i <= k -> ¬ ahead (ts.map (·.1)) t.1.uid k)
  (hf : ¬ ∃ e,(ts.map (·.1))[i]? = some e /\ cmpU e.uid t.1.uid = 0) : putT t ts = ts.take i ++ t :: ts.drop i:=by
 rcases Nat.lt_or_eq_of_le hi with k | k
 ·have hs : ts[i]? = some ts[i]:=List.getElem?_eq_getElem k;have hm : (ts.map (·.1))[i]? = some ts[i].1:=by rw [List.getElem?_map,hs];rfl
  refine putT_new t ts i _ (ahead_T h1) hs ?_ (fun he => hf ⟨_,hm,(cmpU_same _ _).2 he⟩);rw [<- Bool.not_eq_true];exact fun hl => h2 i (Nat.le_refl _) ⟨_,hm,(cmpU_less _ _).2 hl⟩
 ·subst k;rw [putT_end t ts (ahead_T h1),List.take_length,List.drop_length]
theorem place_some {ts : List (Ev × Value × Value)} {t s : Ev × Value × Value} {i : Nat} (h1 : ∀ k,k < i -> ahead (ts.map (·.1)) t.1.uid k) (hs : ts[i]? = some s) (hc : cmpU s.1.uid t.1.uid = 0) : putT t ts = ts.set i t:=by
 have he:=(cmpU_same _ _).1 hc;rw [putT_same t ts i s (ahead_T h1) hs (by rw [he];exact lessU_irrefl _) he];exact (List.set_eq_take_append_cons_drop ..).symm ▸ (by rw [if_pos (List.getElem?_eq_some_iff.1 hs).1])
theorem stepM_none {out : List Ev} {ns : List Nt} {e : Ev} (h : findFrom e.uid out 0 = -1) : stepM (out,ns) e = (putE e out,noteN (toldV true e.canc) e ns):=by
 unfold stepM;rw [if_pos (by show findFrom e.uid out 0 < 0;rw [h];decide)]
theorem stepM_some {out : List Ev} {ns : List Nt} {e o : Ev} {i : Nat} (h : findFrom e.uid out 0 = i) (ho : out[i]? = some o) : stepM (out,ns) e = if o.seq < e.seq then (putE e out,noteN (toldV o.canc e.canc) e ns) else (out,ns):=by
 unfold stepM;rw [if_neg (by show ¬ findFrom e.uid out 0 < 0;rw [h];omega)];show (match out[(findFrom e.uid out 0).toNat]? with | none => (out,ns) | some o => if o.seq < e.seq then (putE e out,noteN (toldV o.canc e.canc) e ns) else (out,ns)) = _
 rw [h,Int.toNat_natCast,ho]
theorem evsV_each (v : Int) : ∀ (es : List Ev) (p : Option ByteArray),evsV v p es = 0 -> ∀ e ∈ es,rightB e.uid.data.toList = true /\ checkV e v = 0
 | [],_,_,_,he => by cases he
 | s :: r,p,h,e,he => by
  obtain ⟨h1,h2,h3,h4⟩:=(evsV_cons v p s r).1 h;rcases List.mem_cons.1 he with rfl | he
  ·exact ⟨h1,h3⟩
  ·exact evsV_each v r _ h4 e he
theorem stepM_valid {v : Int} {s : List Ev × List Nt} {e : Ev} (hr : rightB e.uid.data.toList = true) (hc : checkV e v = 0) (h : evsV v none s.1 = 0) : evsV v none (stepM s e).1 = 0:=by
 unfold stepM;split
 ·exact evsV_put v e hr hc s.1 none rfl h
 ·split
  ·exact h
  ·split
   ·exact evsV_put v e hr hc s.1 none rfl h
   ·exact h
theorem mrg_valid {v : Int} : ∀ (fs : List Ev) (s : List Ev × List Nt),(∀ e ∈ fs,rightB e.uid.data.toList = true /\ checkV e v = 0) -> evsV v none s.1 = 0 -> evsV v none (fs.foldl stepM s).1 = 0
 | [],_,_,h => h
 | e :: r,s,hf,h => by
  rw [List.foldl_cons];exact mrg_valid r _ (fun a ha => hf a (List.mem_cons_of_mem _ ha)) (stepM_valid (hf e (List.mem_cons_self ..)).1 (hf e (List.mem_cons_self ..)).2 h)
theorem mrg_ok {rv v : Int} {es fs : List Ev} (hv : rv <= v) (he : evsV rv none es = 0) (hf : evsV v none fs = 0) (k : Nat) : evsV v none (mrg es (fs.take k)).1 = 0 :=
 mrg_valid (fs.take k) (es,[]) (fun e h => evsV_each v fs none hf e (List.mem_of_mem_take h)) (evsV_mono hv es none he)
theorem putE_len (e : Ev) : ∀ es : List Ev,(putE e es).length <= es.length + 1
 | [] => Nat.le_refl _
 | s :: r => by
  unfold putE;split
  ·simpa using putE_len e r
  ·split <;> simp
theorem stepM_len (s : List Ev × List Nt) (e : Ev) : (stepM s e).1.length <= s.1.length + 1 /\ (stepM s e).2.length <= s.2.length + 1:=by
 have hn : ∀ c,(noteN c e s.2).length <= s.2.length + 1:=fun c => by unfold noteN;split <;> simp
 unfold stepM;split
 ·exact ⟨putE_len e s.1,hn _⟩
 ·split
  ·omega
  ·split
   ·exact ⟨putE_len e s.1,hn _⟩
   ·omega
theorem mrg_len (es fs : List Ev) : ∀ k,k <= fs.length -> (mrg es (fs.take k)).1.length <= es.length + k /\ (mrg es (fs.take k)).2.length <= k
 | 0,_ => by show es.length <= es.length + 0 /\ 0 <= 0;omega
 | k + 1,h => by
  have ih:=mrg_len es fs k (by omega);rw [mrg_take es fs k _ (List.getElem?_eq_getElem (show k < fs.length by omega))];have:=stepM_len (mrg es (fs.take k)) fs[k];omega
theorem rdOk_iff (v : Int) (es : List Ev) : rdOk v es = true ↔ 0 <= v /\ v <= 64 /\ es.length <= 256 /\ evsV v none es = 0:=by
 unfold rdOk;simp only [Bool.and_eq_true,Bool.not_eq_true',decide_eq_false_iff_not,decide_eq_true_eq];omega
theorem feedV_ok {n : ByteArray} {v : Int} {es : List Ev} (h : feedV n v es = 0) : 0 <= v /\ v <= 64 /\ es.length <= 256 /\ evsV v none es = 0:=by
 unfold feedV at h;split at h
 ·cases h
 ·split at h
  ·cases h
  ·split at h
   ·cases h
   ·exact ⟨by omega,by omega,by omega,h⟩
end Go.Proofs.YtageielcdebjlaaGreatDoor
namespace Tt
structure Grd where
 days : Int
 slots : Int
 begin_ : Int
 mins : Int
structure Tim where
 weeks : Int
 day : Int
 start : Int
 len : Int
def gridV (g : Grd) : Int:=if g.days < 1 ∨ 7 < g.days ∨ g.slots < 1 ∨ 24 < g.slots ∨ g.begin_ < 0 ∨ 1440 <= g.begin_ ∨ g.mins < 5 ∨ 120 < g.mins ∨ 1440 < g.begin_ + g.slots * g.mins then 3 else 0
def weeksB (set n : Int) : Bool:=decide (1 <= n /\ n <= 20 /\ 1 <= set /\ set < ((2 ^ n.toNat : Nat) : Int))
def soundB (t : Tim) : Bool:=weeksB t.weeks 20 && decide (0 <= t.day /\ t.day < 7 /\ 0 <= t.start /\ t.start < 24 /\ 1 <= t.len /\ t.start + t.len <= 24)
def fitsV (g : Grd) (weeks : Int) (t : Tim) : Int:=if gridV g = 0 /\ 1 <= weeks /\ weeks <= 20 then (if soundB t = true /\ weeksB t.weeks weeks = true /\ t.day < g.days /\ t.start + t.len <= g.slots then 0 else 14) else 1
theorem mul_small {s m : Int} (h0 : 1 <= s) (h1 : s <= 24) (h2 : 5 <= m) (h3 : m <= 120) : 0 <= s * m /\ s * m <= 2880:=by
 constructor
 ·exact Int.mul_nonneg (by omega) (by omega)
 ·calc s * m <= 24 * m:=Int.mul_le_mul_of_nonneg_right h1 (by omega)
   _ <= 24 * 120:=Int.mul_le_mul_of_nonneg_left h3 (by omega)
theorem soundB_iff (t : Tim) : soundB t = true ↔ weeksB t.weeks 20 = true /\ 0 <= t.day /\ t.day < 7 /\ 0 <= t.start /\ t.start < 24 /\ 1 <= t.len /\ t.start + t.len <= 24:=by
 unfold soundB;simp
end Tt
namespace Go.Proofs.YtageielcdebjlaaGreatDoor
open Go.RowKit
def grdVal (g : Tt.Grd) : Value:=.agg #[.int .i64 g.days,.int .i64 g.slots,.int .i64 g.begin_,.int .i64 g.mins]
def timVal (t : Tt.Tim) : Value:=.agg #[.int .i64 t.weeks,.int .i64 t.day,.int .i64 t.start,.int .i64 t.len]
theorem grid124 (g : Tt.Grd) (w : World) : Calls Tryz.prog 124 #[grdVal g] w fun e w' => e = .returned (.int .i64 (Tt.gridV g)) /\ Below w.heap.size w w':=by
  obtain ⟨d,s,b,m⟩:=g;obtain ⟨E,hE⟩ : ∃ E,E = Tt.gridV ⟨d,s,b,m⟩:=⟨_,rfl⟩
  rw [<- hE];have HE:=Lh (show E = (if d < 1 ∨ 7 < d ∨ s < 1 ∨ 24 < s ∨ b < 0 ∨ 1440 <= b ∨ m < 5 ∨ 120 < m ∨ 1440 < b + s * m then 3 else 0) from hE);have HB:=Lh (below_box w (.cells #[.int .i64 d,.int .i64 s,.int .i64 b,.int .i64 m] 90));clear hE;unfold grdVal;by_cases hr : 1 <= s /\ s <= 24 /\ 0 <= b /\ b < 1440 /\ 5 <= m /\ m <= 120
  · obtain ⟨a0,a1,a2,a3,a4,a5⟩:=hr;obtain ⟨p0,p1⟩:=Tt.mul_small a0 a1 a4 a5;obtain ⟨p,hp⟩ : ∃ p,p = s * m:=⟨_,rfl⟩
    have HP:=Lh hp;rw [<- hp] at p0 p1;have hw1 : wrap64 (s * m) = p:=by rw [<- hp];unfold RowKit.wrap64;omega
    have hw2 : wrap64 (b + p) = b + p:=by unfold RowKit.wrap64;omega
    clear hp;go_enter Tryz.func124,Tryz.ntmps124;go_wp2_with fail
    all_goals
      go_ret;refine ⟨ret_int ?_,HB.out⟩;rw [HE.out,<- HP.out];first | rw [if_pos (by omega)] | rw [if_neg (by omega)]
  · go_enter Tryz.func124,Tryz.ntmps124;go_wp2_with fail
    all_goals first
      | (exfalso;omega)
      | (go_ret
         refine ⟨ret_int ?_,HB.out⟩;rw [HE.out,if_pos (by omega)])
theorem weeks205 (set n : Int) (w : World) : Calls Tryz.prog 205 #[.int .i64 set,.int .i64 n] w fun e w' => e = .returned (.bool (Tt.weeksB set n)) /\ w' = w:=by
  obtain ⟨B,hB⟩ : ∃ B,B = Tt.weeksB set n:=⟨_,rfl⟩
  rw [<- hB];have HB:=Lh (show B = decide (1 <= n /\ n <= 20 /\ 1 <= set /\ set < ((2 ^ n.toNat : Nat) : Int)) from hB);clear hB;by_cases hr : 1 <= n /\ n <= 20
  · obtain ⟨a0,a1⟩:=hr;obtain ⟨k,rfl⟩ : ∃ k : Nat,n = k:=⟨n.toNat,by omega⟩
    obtain ⟨p,hp⟩ : ∃ p : Nat,p = 2 ^ k:=⟨_,rfl⟩
    have hp1 : p <= 1048576:=by rw [hp];exact Nat.pow_le_pow_right (n:=2) (by decide) (show k <= 20 by omega)
    have HP:=Lh hp;have hk0 : ¬ ((k : Int) < 0):=by omega
    have hs1 : RowKit.wrap64 (2 ^ k) = (p : Int):=by rw [show ((2 : Int) ^ k) = ((2 ^ k : Nat) : Int) by simp,<- hp];unfold RowKit.wrap64;omega
    clear hp;go_enter Tryz.func205,Tryz.ntmps205;go_wp2_with fail
    all_goals
      go_ret;refine ⟨ret_bool ?_,rfl⟩;rw [HB.out,Int.toNat_natCast,<- HP.out];first | exact decide_eq_decide.2 (by omega) | exact (decide_eq_false (by omega)).symm
  · go_enter Tryz.func205,Tryz.ntmps205;go_wp2_with fail
    all_goals first
      | (exfalso;omega)
      | (go_ret
         refine ⟨ret_bool ?_,rfl⟩;rw [HB.out];exact (decide_eq_false (fun h => hr ⟨h.1,h.2.1⟩)).symm)
theorem week203 (g : Tt.Grd) (n : Int) (w : World) : Calls Tryz.prog 203 #[grdVal g,.int .i64 n] w fun e w' => e = .returned (.bool (decide (Tt.gridV g = 0 /\ 1 <= n /\ n <= 20))) /\ Below w.heap.size w w':=by
 obtain ⟨E,hE⟩ : ∃ E,E = Tt.gridV g:=⟨_,rfl⟩
 rw [<- hE];obtain ⟨W,hW⟩ : ∃ W,W = w.alloc (.cells #[.int .i64 g.days,.int .i64 g.slots,.int .i64 g.begin_,.int .i64 g.mins] 90):=⟨_,rfl⟩
 have HC:=Lh (show Calls Tryz.prog 124 #[.agg #[.int .i64 g.days,.int .i64 g.slots,.int .i64 g.begin_,.int .i64 g.mins]] W fun e w' => e = .returned (.int .i64 E) /\ Below W.heap.size W w' from by rw [hE];exact grid124 g W);have HB:=Lh (show Below w.heap.size w W from by rw [hW];exact below_box w _);have hb : Blk w.heap.size #[.int .i64 g.days,.int .i64 g.slots,.int .i64 g.begin_,.int .i64 g.mins] 90 W:=by rw [hW];exact Blk.new w _ _
 have c0 : W.cell? ⟨w.heap.size,0,none⟩ = some (.int .i64 g.days):=hb.cell 0;have c1 : W.cell? ⟨w.heap.size,1,none⟩ = some (.int .i64 g.slots):=hb.cell 1;have c2 : W.cell? ⟨w.heap.size,2,none⟩ = some (.int .i64 g.begin_):=hb.cell 2;have c3 : W.cell? ⟨w.heap.size,3,none⟩ = some (.int .i64 g.mins):=hb.cell 3;unfold grdVal;clear hE hb;go_enter Tryz.func203,Tryz.ntmps203;go_upto_region 1 with (fail);rw [<- hW];clear hW;go_wp2_with fail;refine HC.out.mono ?_;rintro e w1 ⟨rfl,hb1⟩;have HL:=Lh (HB.out.trans (hb1.mono HB.out.size));clear hb1 HC HB c0 c1 c2 c3;by_cases h0 : E = 0
 ·have h1 : (E == 0) = true:=by simp [h0]
  go_wp2_with fail
  all_goals
   go_ret;refine ⟨ret_bool ?_,HL.out⟩;first | exact (decide_eq_false (by omega)).symm | exact decide_eq_decide.2 (by omega) | (simp;omega)
 ·have h1 : (E == 0) = false:=by simp [h0]
  go_wp2_with fail
  all_goals
   go_ret;refine ⟨ret_bool ?_,HL.out⟩;exact (decide_eq_false (fun h => h0 h.1)).symm
theorem sound204 (x : Tt.Tim) (w : World) : Calls Tryz.prog 204 #[timVal x] w fun e w' => e = .returned (.bool (Tt.soundB x)) /\ Below w.heap.size w w':=by
  obtain ⟨k,d,s,l⟩:=x;obtain ⟨B,hB⟩ : ∃ B,B = Tt.soundB ⟨k,d,s,l⟩:=⟨_,rfl⟩
  rw [<- hB];obtain ⟨C,hC⟩ : ∃ C,C = Tt.weeksB k 20:=⟨_,rfl⟩
  have HB:=Lh (show B = (Tt.weeksB k 20 && decide (0 <= d /\ d < 7 /\ 0 <= s /\ s < 24 /\ 1 <= l /\ s + l <= 24)) from hB);rw [<- hC] at HB;have HC:=Lh hC;have HW:=Lh (below_box w (.cells #[.int .i64 k,.int .i64 d,.int .i64 s,.int .i64 l] 105));clear hB hC;unfold timVal;by_cases hr : 0 <= s /\ s <= 24 /\ 1 <= l /\ l <= 24
  · obtain ⟨a0,a1,a2,a3⟩:=hr;have hw1 : wrap64 (24 - s) = 24 - s:=by unfold RowKit.wrap64;omega
    have hw2 : wrap64 (s + l) = s + l:=by unfold RowKit.wrap64;omega
    go_enter Tryz.func204,Tryz.ntmps204;go_wp2_with fail
    all_goals
      refine (weeks205 _ _ _).mono ?_;rintro e w1 ⟨rfl,hx⟩;rw [hx,<- HC.out];clear hx w1;cases C
    all_goals go_wp2_with fail
    all_goals
      go_ret;refine ⟨ret_bool ?_,HW.out⟩;rw [HB.out];first | rfl | exact (decide_eq_false (by omega)).symm | exact (decide_eq_true (by omega)).symm | exact decide_eq_decide.2 (by omega)
  · go_enter Tryz.func204,Tryz.ntmps204;go_wp2_with fail
    all_goals
      try (refine (weeks205 _ _ _).mono ?_
           rintro e w1 ⟨rfl,hx⟩;rw [hx,<- HC.out];clear hx w1;cases C)
    all_goals go_wp2_with fail
    all_goals first
      | (exfalso;omega)
      | (go_ret
         refine ⟨ret_bool ?_,HW.out⟩;rw [HB.out];first | rfl | exact (decide_eq_false (by omega)).symm | exact decide_eq_decide.2 (by omega))
theorem fits134 (g : Tt.Grd) (n : Int) (x : Tt.Tim) (w : World) : Calls Tryz.prog 134 #[grdVal g,.int .i64 n,timVal x] w fun e w' => e = .returned (.int .i64 (Tt.fitsV g n x)) /\ Below w.heap.size w w':=by
 obtain ⟨E,hE⟩ : ∃ E,E = Tt.fitsV g n x:=⟨_,rfl⟩
 rw [<- hE];have HE:=Lh (show E = (if Tt.gridV g = 0 /\ 1 <= n /\ n <= 20 then (if Tt.soundB x = true /\ Tt.weeksB x.weeks n = true /\ x.day < g.days /\ x.start + x.len <= g.slots then 0 else 14) else 1) from hE);have HGR : Hid (Tt.gridV g = 0 -> 1 <= g.slots /\ g.slots <= 24 /\ 1 <= g.days /\ g.days <= 7):=Lh (fun h => by unfold Tt.gridV at h;split at h <;> first | (cases h;done) | omega);obtain ⟨G,hG⟩ : ∃ G : Bool,G = decide (Tt.gridV g = 0 /\ 1 <= n /\ n <= 20):=⟨_,rfl⟩
 obtain ⟨S,hS⟩ : ∃ S : Bool,S = Tt.soundB x:=⟨_,rfl⟩
 obtain ⟨K,hK⟩ : ∃ K : Bool,K = Tt.weeksB x.weeks n:=⟨_,rfl⟩
 obtain ⟨P,hP⟩ : ∃ P,P = w.heap.size:=⟨_,rfl⟩
 obtain ⟨Q,hQ⟩ : ∃ Q,Q = w.heap.size + 1:=⟨_,rfl⟩
 obtain ⟨W,hW⟩ : ∃ W,W = (w.alloc (.cells #[.int .i64 g.days,.int .i64 g.slots,.int .i64 g.begin_,.int .i64 g.mins] 90)).alloc (.cells #[.int .i64 x.weeks,.int .i64 x.day,.int .i64 x.start,.int .i64 x.len] 105):=⟨_,rfl⟩
 have HC1:=Lh (show ∀ W,Calls Tryz.prog 203 #[.agg #[.int .i64 g.days,.int .i64 g.slots,.int .i64 g.begin_,.int .i64 g.mins],.int .i64 n] W fun e w' => e = .returned (.bool G) /\ Below W.heap.size W w' from fun W => by rw [hG];exact week203 g n W);have HC2:=Lh (show ∀ W,Calls Tryz.prog 204 #[.agg #[.int .i64 x.weeks,.int .i64 x.day,.int .i64 x.start,.int .i64 x.len]] W fun e w' => e = .returned (.bool S) /\ Below W.heap.size W w' from fun W => by rw [hS];exact sound204 x W);have HC3:=Lh (show ∀ W,Calls Tryz.prog 205 #[.int .i64 x.weeks,.int .i64 n] W fun e w' => e = .returned (.bool K) /\ w' = W from fun W => by rw [hK];exact weeks205 _ _ W);have HB:=Lh (show Below w.heap.size w W from by rw [hW];exact (below_box w _).trans ((below_box _ _).mono (by simp)));have HBP:=Lh (show Blk P #[.int .i64 g.days,.int .i64 g.slots,.int .i64 g.begin_,.int .i64 g.mins] 90 W from by rw [hW,hP];exact (Blk.new w _ _).alloc _);have HBQ:=Lh (show Blk Q #[.int .i64 x.weeks,.int .i64 x.day,.int .i64 x.start,.int .i64 x.len] 105 W from by rw [hW,hQ];exact Blk.new' _ _ _ (by simp));have HG:=Lh hG;have HS:=Lh hS;have HK:=Lh hK;have a0 : W.cell? ⟨P,0,none⟩ = some (.int .i64 g.days):=HBP.out.cell 0;have a1 : W.cell? ⟨P,1,none⟩ = some (.int .i64 g.slots):=HBP.out.cell 1;have a2 : W.cell? ⟨P,2,none⟩ = some (.int .i64 g.begin_):=HBP.out.cell 2;have a3 : W.cell? ⟨P,3,none⟩ = some (.int .i64 g.mins):=HBP.out.cell 3;unfold grdVal timVal;clear hE hG hS hK;go_enter Tryz.func134,Tryz.ntmps134;go_upto_region 1 with (fail);rw [<- hW,<- hQ,<- hP];clear hW hQ hP;go_wp2_with fail;refine (HC1.out _).mono ?_;rintro e w1 ⟨rfl,hb1⟩;have HL:=Lh (HB.out.trans (hb1.mono HB.out.size));have HP1:=Lh (HBP.out.below hb1 HBP.out.lt);have HQ1:=Lh (HBQ.out.below hb1 HBQ.out.lt);clear hb1 HC1 HB HBP HBQ a0 a1 a2 a3;cases G
 ·have hE1 : E = 1:=by rw [HE.out,if_neg (of_decide_eq_false HG.out.symm)]
  have HE1:=Lh hE1;clear hE1;go_wp2_with fail;go_ret;exact ⟨ret_int HE1.out.symm,HL.out⟩
 ·have hg:=of_decide_eq_true HG.out.symm;have HGG:=Lh hg;obtain ⟨g1,g2,g3,g4⟩:=HGR.out hg.1;clear hg;have q0 : w1.cell? ⟨Q,0,none⟩ = some (.int .i64 x.weeks):=HQ1.out.cell 0;have q1 : w1.cell? ⟨Q,1,none⟩ = some (.int .i64 x.day):=HQ1.out.cell 1;have q2 : w1.cell? ⟨Q,2,none⟩ = some (.int .i64 x.start):=HQ1.out.cell 2;have q3 : w1.cell? ⟨Q,3,none⟩ = some (.int .i64 x.len):=HQ1.out.cell 3;go_wp2_with fail;refine (HC2.out _).mono ?_;rintro e w2 ⟨rfl,hb2⟩;have HL2:=Lh (HL.out.trans (hb2.mono HL.out.size));have HP2:=Lh (HP1.out.below hb2 HP1.out.lt);have HQ2:=Lh (HQ1.out.below hb2 HQ1.out.lt);clear hb2 HC2 HL HP1 HQ1 q0 q1 q2 q3;have a0 : w2.cell? ⟨P,0,none⟩ = some (.int .i64 g.days):=HP2.out.cell 0;have a1 : w2.cell? ⟨P,1,none⟩ = some (.int .i64 g.slots):=HP2.out.cell 1;have q0 : w2.cell? ⟨Q,0,none⟩ = some (.int .i64 x.weeks):=HQ2.out.cell 0;have q1 : w2.cell? ⟨Q,1,none⟩ = some (.int .i64 x.day):=HQ2.out.cell 1;have q2 : w2.cell? ⟨Q,2,none⟩ = some (.int .i64 x.start):=HQ2.out.cell 2;have q3 : w2.cell? ⟨Q,3,none⟩ = some (.int .i64 x.len):=HQ2.out.cell 3;cases S
  ·have HE1:=Lh (show E = 14 from by rw [HE.out,if_pos HGG.out,if_neg (fun h => by rw [<- HS.out] at h;cases h.1)]);go_wp2_with fail;go_ret;exact ⟨ret_int HE1.out.symm,HL2.out⟩
  ·obtain ⟨s1,s2,s3,s4,s5,s6,s7⟩:=(Tt.soundB_iff x).1 HS.out.symm;have hw : wrap64 (x.start + x.len) = x.start + x.len:=by unfold RowKit.wrap64;omega
   have HS1:=Lh s1;clear s1;go_wp2_with fail;refine (HC3.out _).mono ?_;rintro e w3 ⟨rfl,hx⟩;rw [hx];clear hx w3 HC3;cases K
   ·have HE1:=Lh (show E = 14 from by rw [HE.out,if_pos HGG.out,if_neg (fun h => by rw [<- HK.out] at h;cases h.2.1)]);go_wp2_with fail;go_ret;exact ⟨ret_int HE1.out.symm,HL2.out⟩
   ·have HE1:=Lh (show E = if x.day < g.days /\ x.start + x.len <= g.slots then 0 else 14 from by
     rw [HE.out,if_pos HGG.out];by_cases h : x.day < g.days /\ x.start + x.len <= g.slots
     ·rw [if_pos h,if_pos ⟨HS.out.symm,HK.out.symm,h.1,h.2⟩]
     ·rw [if_neg h,if_neg (fun hh => h hh.2.2)])
    go_wp2_with fail
    all_goals
     go_ret;refine ⟨ret_int ?_,HL2.out⟩;rw [HE1.out];first | rw [if_pos (by omega)] | rw [if_neg (by omega)]
end Go.Proofs.YtageielcdebjlaaGreatDoor
namespace Tt
structure Trm where
 first : Int
 weeks : Int
 hols : List Int
def lastT (t : Trm) : Int:=t.first + 7 * t.weeks - 1
def wkdV (n : Int) : Int:=if isD n = true then wk n else -1
def holV (a b : Int) : Option Int -> List Int -> Int
 | _,[] => 0
 | p,h :: r => if h < a ∨ b < h then 13 else if p.any (fun q => decide (h <= q)) = true then 11 else holV a b (some h) r
def prevI (l : List Int) (k : Nat) : Option Int:=if k = 0 then none else l[k - 1]?
theorem prevI_succ (l : List Int) (k : Nat) (d : Int) (h : l[k]? = some d) : prevI l (k + 1) = some d:=by unfold prevI;simp [h]
def holF (a b : Int) (l : List Int) (k : Nat) : Int:=holV a b (prevI l k) (l.drop k)
theorem holF_end (a b : Int) (l : List Int) (k : Nat) (h : l.length <= k) : holF a b l k = 0:=by unfold holF;rw [List.drop_eq_nil_of_le h];rfl
theorem holF_step (a b : Int) (l : List Int) (k : Nat) (d : Int) (h : l[k]? = some d) : holF a b l k = if d < a ∨ b < d then 13 else if (prevI l k).any (fun q => decide (d <= q)) = true then 11 else holF a b l (k + 1):=by
 unfold holF;obtain ⟨g1,g2⟩:=List.getElem?_eq_some_iff.1 h;rw [List.drop_eq_getElem_cons g1,g2,holV,prevI_succ l k d h]
def trmV (t : Trm) : Int:=if wkdV t.first ≠ 0 then 13 else if t.weeks < 1 ∨ 20 < t.weeks then 3 else if isD (lastT t) = false then 13 else if 64 < (t.hols.length : Int) then 2 else holF t.first (lastT t) t.hols 0
theorem trmV_ok {t : Trm} (h : trmV t = 0) : 0 <= t.first /\ t.first <= 36524 /\ 1 <= t.weeks /\ t.weeks <= 20 /\ lastT t <= 36524 /\ wk t.first = 0:=by
 unfold trmV at h;split at h
 ·cases h
 ·split at h
  ·cases h
  ·split at h
   ·cases h
   ·rename_i h1 h2 h3
    have h4 : isD t.first = true:=by
     cases hd : isD t.first with
     | true => rfl
     | false => exact absurd (by unfold wkdV;rw [if_neg (by rw [hd];decide)];decide) h1
    have h5 : wk t.first = 0:=by
     have h6 : ¬ wkdV t.first ≠ 0:=h1;unfold wkdV at h6;rw [if_pos h4] at h6;omega
    have h7 : isD (lastT t) = true:=by simpa using h3
    have h8:=(isD_iff _).1 h4;have h9:=(isD_iff _).1 h7;exact ⟨h8.1,h8.2,by omega,by omega,h9.2,h5⟩
def atD (t : Trm) (k d : Int) : Int:=t.first + 7 * (k - 1) + d
def atB (t : Trm) (k d : Int) : Bool:=decide (trmV t = 0 /\ 1 <= k /\ k <= t.weeks /\ 0 <= d /\ d < 7) && !decide (atD t k d ∈ t.hols)
def daysK (t : Trm) (x : Tim) : Nat -> List Int
 | 0 => []
 | k + 1 => if bit x.weeks k = true /\ atB t ((k : Int) + 1) x.day = true then daysK t x k ++ [atD t ((k : Int) + 1) x.day] else daysK t x k
theorem daysK_len (t : Trm) (x : Tim) : ∀ k,(daysK t x k).length <= k
 | 0 => Nat.le_refl _
 | k + 1 => by
  have ih:=daysK_len t x k;rw [daysK];split
  ·rw [List.length_append];simp;omega
  ·omega
end Tt
namespace Go.Proofs.YtageielcdebjlaaGreatDoor
open Go.RowKit
def trmVal (t : Tt.Trm) (v : Value) : Value:=.agg #[.int .i64 t.first,.int .i64 t.weeks,v]
theorem wkd191_any (n : Int) (w : World) : Calls Tryz.prog 191 #[.int .i64 n] w fun e w' => e = .returned (.int .i64 (Tt.wkdV n)) /\ w' = w:=by
 unfold Tt.wkdV;cases h : Tt.isD n with
 | true => rw [if_pos rfl];exact wkd191 n w h
 | false => rw [if_neg (by decide)];exact wkd191_not n w h
theorem last193 (t : Tt.Trm) (p : Option Addr) (n c : Nat) (w : World) (h0 : 0 <= t.first) (h1 : t.first <= 36524) (h2 : 0 <= t.weeks) (h3 : t.weeks <= 20) : Calls Tryz.prog 193 #[trmVal t (.slice p n c)] w fun e w' => e = .returned (.int .i64 (Tt.lastT t)) /\ Below w.heap.size w w':=by
 obtain ⟨f,k,l⟩:=t;have HB:=Lh (below_box w (.cells #[.int .i64 f,.int .i64 k,.slice p n c] 93));have h0 : 0 <= f:=h0;have h1 : f <= 36524:=h1;have h2 : 0 <= k:=h2;have h3 : k <= 20:=h3;unfold trmVal;go_enter Tryz.func193,Tryz.ntmps193;go_wp2_with fail;go_ret;exact ⟨rfl,HB.out⟩
theorem free219 (t : Tt.Trm) (ao : Option Addr) (c : Nat) (B : Nat) (x : Int) (w : World) (hB : B <= w.heap.size) (hI : Ints B w ao t.hols) (hn : t.hols.length <= 4611686018427387903) : Calls Tryz.prog 219 #[trmVal t (.slice ao t.hols.length c),.int .i64 x] w fun e w' => e = .returned (.bool (!decide (x ∈ t.hols))) /\ Below w.heap.size w w':=by
 obtain ⟨P,hP⟩ : ∃ P,P = w.heap.size:=⟨_,rfl⟩
 obtain ⟨W,hW⟩ : ∃ W,W = w.alloc (.cells #[.int .i64 t.first,.int .i64 t.weeks,.slice ao t.hols.length c] 93):=⟨_,rfl⟩
 have HBW:=Lh (show Below w.heap.size w W from by rw [hW];exact below_box w _);have HPW:=Lh (show Blk P #[.int .i64 t.first,.int .i64 t.weeks,.slice ao t.hols.length c] 93 W from by rw [hW,hP];exact Blk.new w _ _);have HIW:=Lh (show Ints B W ao t.hols from hI.below (HBW.out.mono hB));have HBP:=Lh (show B <= P by omega);unfold trmVal;clear hI;obtain ⟨xs,hxs⟩ : ∃ xs,xs = t.hols:=⟨_,rfl⟩
 rw [<- hxs] at hn HIW HPW hW ⊢;have c0 : W.cell? ⟨P,0,none⟩ = some (.int .i64 t.first):=HPW.out.cell 0;have c1 : W.cell? ⟨P,1,none⟩ = some (.int .i64 t.weeks):=HPW.out.cell 1;have c2 : W.cell? ⟨P,2,none⟩ = some (.slice ao xs.length c):=HPW.out.cell 2;clear hxs;go_enter Tryz.func219,Tryz.ntmps219;go_upto_region 1 with (fail);rw [<- hW,<- hP];clear hW hP;go_wp2_with fail;go_loop [10] (fun i => ∃ k : Nat,i = .int .i64 k /\ k <= xs.length /\ Hid (decide (x ∈ xs) = decide (x ∈ xs.drop k))) (fun i => xs.length - (intOf i).toNat)
 case atStart => exact ⟨0,rfl,Nat.zero_le _,rfl⟩
 case round =>
  obtain ⟨k,rfl,hk,HK⟩:=hrel;by_cases hlt : k < xs.length
  ·obtain ⟨d,hd⟩ : ∃ d,xs[k]? = some d:=⟨_,List.getElem?_eq_getElem hlt⟩
   obtain ⟨b,o,ha,hb,hc0⟩:=HIW.out.form (by omega);subst ha;have hc:=hc0 k d hd;have hki : (k : Int) < (xs.length : Int):=by omega
   have HD:=Lh (show decide (x ∈ xs.drop k) = (decide (x = d) || decide (x ∈ xs.drop (k + 1))) by
    obtain ⟨g1,g2⟩:=List.getElem?_eq_some_iff.1 hd;rw [List.drop_eq_getElem_cons g1,g2];simp)
   clear hd hc0;by_cases he : d = x
   ·have ht : (d == x) = true:=by simp [he]
    have HE:=Lh (show decide (x ∈ xs) = true by rw [HK.out,HD.out,he];simp);clear he;go_wp2_with fail;go_ret;exact ⟨ret_bool (by rw [HE.out] <;> rfl),HBW.out⟩
   ·have ht : (d == x) = false:=by simp [he]
    have HE:=Lh (show decide (x ∈ xs) = decide (x ∈ xs.drop (k + 1)) by rw [HK.out,HD.out,decide_eq_false (fun e => he e.symm)];rfl);clear he;go_wp2_with fail;go_round
    case rel => exact ⟨k + 1,by go_num,by omega,HE.out⟩
    case measure => simp [intOf];omega
  ·have hki : ¬ (k : Int) < (xs.length : Int):=by omega
   have HE:=Lh (show decide (x ∈ xs) = false by rw [HK.out,List.drop_eq_nil_of_le (by omega)];simp);go_wp2_with fail;go_ret;exact ⟨ret_bool (by rw [HE.out] <;> rfl),HBW.out⟩
theorem trm125 (t : Tt.Trm) (ao : Option Addr) (c : Nat) (B : Nat) (w : World) (hB : B <= w.heap.size) (hI : Ints B w ao t.hols) (hn : t.hols.length <= 4611686018427387903) : Calls Tryz.prog 125 #[trmVal t (.slice ao t.hols.length c)] w fun e w' => e = .returned (.int .i64 (Tt.trmV t)) /\ Below w.heap.size w w':=by
  obtain ⟨E,hE⟩ : ∃ E,E = Tt.trmV t:=⟨_,rfl⟩
  rw [<- hE];have HE:=Lh (show E = (if Tt.wkdV t.first ≠ 0 then 13 else if t.weeks < 1 ∨ 20 < t.weeks then 3 else if Tt.isD (Tt.lastT t) = false then 13 else if 64 < (t.hols.length : Int) then 2 else Tt.holF t.first (Tt.lastT t) t.hols 0) from hE);clear hE;obtain ⟨P,hP⟩ : ∃ P,P = w.heap.size:=⟨_,rfl⟩
  obtain ⟨W,hW⟩ : ∃ W,W = w.alloc (.cells #[.int .i64 t.first,.int .i64 t.weeks,.slice ao t.hols.length c] 93):=⟨_,rfl⟩
  have HBW:=Lh (show Below w.heap.size w W from by rw [hW];exact below_box w _);have HPW:=Lh (show Blk P #[.int .i64 t.first,.int .i64 t.weeks,.slice ao t.hols.length c] 93 W from by rw [hW,hP];exact Blk.new w _ _);have HIW:=Lh (show Ints B W ao t.hols from hI.below (HBW.out.mono hB));have HBP:=Lh (show B <= P by omega);unfold trmVal;clear hI;have c0 : W.cell? ⟨P,0,none⟩ = some (.int .i64 t.first):=HPW.out.cell 0;have c1 : W.cell? ⟨P,1,none⟩ = some (.int .i64 t.weeks):=HPW.out.cell 1;have c2 : W.cell? ⟨P,2,none⟩ = some (.slice ao t.hols.length c):=HPW.out.cell 2;obtain ⟨D,hD⟩ : ∃ D,D = Tt.wkdV t.first:=⟨_,rfl⟩
  rw [<- hD] at HE;have HD:=Lh hD;clear hD;have HDF : Hid (D = 0 -> 0 <= t.first /\ t.first <= 36524):=Lh (fun h => by
    rw [HD.out] at h;unfold Tt.wkdV at h;split at h
    · rename_i hd;exact (Tt.isD_iff _).1 hd
    · cases h)
  go_enter Tryz.func125,Tryz.ntmps125;go_upto_region 1 with (fail);rw [<- hW,<- hP];clear hW hP;go_wp2_with fail;refine (wkd191_any _ _).mono ?_;rintro e w1 ⟨rfl,hx⟩;rw [hx,<- HD.out];clear hx w1;by_cases hD0 : D = 0
  rotate_left
  · have hb : (D != 0) = true:=by simp [hD0]
    have HE1:=Lh (show E = 13 from by rw [HE.out,if_pos hD0]);clear hD0;go_wp2_with fail;go_ret;exact ⟨ret_int HE1.out.symm,HBW.out⟩
  have hb : (D != 0) = false:=by simp [hD0]
  obtain ⟨f0,f1⟩:=HDF.out hD0;have HD0:=Lh hD0;clear hD0;by_cases hw : t.weeks < 1 ∨ 20 < t.weeks
  · have HE1:=Lh (show E = 3 from by rw [HE.out,if_neg (fun h => h HD0.out),if_pos hw]);rcases hw with hw | hw
    · go_wp2_with fail
      all_goals first
        | (exfalso;omega)
        | (go_ret
           exact ⟨ret_int HE1.out.symm,HBW.out⟩)
    · go_wp2_with fail
      all_goals first
        | (exfalso;omega)
        | (go_ret
           exact ⟨ret_int HE1.out.symm,HBW.out⟩)
  have hw0 : 1 <= t.weeks:=by omega
  have hw1 : t.weeks <= 20:=by omega
  have HW:=Lh hw;clear hw;obtain ⟨LT,hLT⟩ : ∃ L,L = Tt.lastT t:=⟨_,rfl⟩
  rw [<- hLT] at HE;have HLT:=Lh (show LT = t.first + 7 * t.weeks - 1 from hLT);have HLT2:=Lh hLT;clear hLT;have HC : Hid (∀ X,Below W.heap.size W X -> Calls Tryz.prog 193 #[.agg #[.int .i64 t.first,.int .i64 t.weeks,.slice ao t.hols.length c]] X fun e w' => e = .returned (.int .i64 LT) /\ Below X.heap.size X w'):=Lh (fun X _ => by rw [HLT2.out];exact last193 t _ _ _ X f0 f1 (by omega) hw1);go_wp2_with fail;refine (HC.out _ (Below.refl _ _)).mono ?_;rintro e w1 ⟨rfl,hb1⟩;have HL1:=Lh hb1;clear hb1 c0 c1 c2;go_wp2_with fail;have c0 : w1.cell? ⟨P,0,none⟩ = some (.int .i64 t.first):=(HPW.out.below HL1.out HPW.out.lt).cell 0;have c1 : w1.cell? ⟨P,1,none⟩ = some (.int .i64 t.weeks):=(HPW.out.below HL1.out HPW.out.lt).cell 1;have c2 : w1.cell? ⟨P,2,none⟩ = some (.slice ao t.hols.length c):=(HPW.out.below HL1.out HPW.out.lt).cell 2;obtain ⟨IB,hIB⟩ : ∃ b,b = Tt.isD LT:=⟨_,rfl⟩
  rw [<- hIB] at HE;have HIB:=Lh hIB;clear hIB;refine (isD192 _ _).mono ?_;rintro e w2 ⟨rfl,hx⟩;rw [hx,<- HIB.out];clear hx w2;cases IB
  · have HE1:=Lh (show E = 13 from by rw [HE.out,if_neg (fun h => h HD0.out),if_neg HW.out,if_pos rfl]);go_wp2_with fail;go_ret;exact ⟨ret_int HE1.out.symm,HBW.out.trans (HL1.out.mono HBW.out.size)⟩
  · by_cases hm : 64 < (t.hols.length : Int)
    · have HE1:=Lh (show E = 2 from by rw [HE.out,if_neg (fun h => h HD0.out),if_neg HW.out,if_neg (by decide),if_pos hm]);go_wp2_with fail;go_ret;exact ⟨ret_int HE1.out.symm,HBW.out.trans (HL1.out.mono HBW.out.size)⟩
    have HE1:=Lh (show Tt.holF t.first LT t.hols 0 = E from by rw [HE.out,if_neg (fun h => h HD0.out),if_neg HW.out,if_neg (by decide),if_neg hm]);obtain ⟨xs,hxs⟩ : ∃ xs,xs = t.hols:=⟨_,rfl⟩
    go_wp2_with fail;go_loopw [32] (fun iv wr => ∃ k : Nat,iv = .int .i64 k /\ k <= t.hols.length /\ Hid (Tt.holF t.first LT t.hols k = E) /\ Hid (Below W.heap.size W wr)) (fun iv _ => t.hols.length - (intOf iv).toNat)
    case atStart => exact ⟨0,rfl,Nat.zero_le _,HE1,HL1⟩
    case round =>
      clear c0 c1 c2;obtain ⟨k,rfl,hk,HK,HB⟩:=hrel;have c0 : wr.cell? ⟨P,0,none⟩ = some (.int .i64 t.first):=(HPW.out.below HB.out HPW.out.lt).cell 0;have c1 : wr.cell? ⟨P,1,none⟩ = some (.int .i64 t.weeks):=(HPW.out.below HB.out HPW.out.lt).cell 1;have c2 : wr.cell? ⟨P,2,none⟩ = some (.slice ao t.hols.length c):=(HPW.out.below HB.out HPW.out.lt).cell 2;by_cases hlt : k < t.hols.length
      · obtain ⟨d,hd⟩ : ∃ d,t.hols[k]? = some d:=⟨_,List.getElem?_eq_getElem hlt⟩
        have HIr:=Lh (HIW.out.below (HB.out.mono (by have:=HPW.out.lt;have:=HBP.out;omega)));obtain ⟨b,o,ha,hb3,hc0⟩:=HIr.out.form (by omega);subst ha;have hc:=hc0 k d hd;have hki : (k : Int) < (t.hols.length : Int):=by omega
        have hkz : (0 : Int) <= (k : Int):=by omega
        have HST:=Lh (Tt.holF_step t.first LT t.hols k d hd);have HFIN:=Lh (show Below w.heap.size w wr from HBW.out.trans (HB.out.mono HBW.out.size));by_cases h1 : d < t.first
        · have HR:=Lh (show E = 13 from by rw [<- HK.out,HST.out,if_pos (.inl h1)]);clear hd hc0;go_wp2_with fail;go_ret;exact ⟨ret_int HR.out.symm,HFIN.out⟩
        by_cases h2 : LT < d
        · have HR:=Lh (show E = 13 from by rw [<- HK.out,HST.out,if_pos (.inr h2)]);clear hd hc0;go_wp2_with fail;refine (HC.out _ HB.out).mono ?_;rintro e w5 ⟨rfl,hb5⟩;have HB5:=Lh (HB.out.trans (hb5.mono HB.out.size));have HF5:=Lh (HFIN.out.trans (hb5.mono HFIN.out.size));clear hb5 c0 c1 c2 hc;go_wp2_with fail;go_ret;exact ⟨ret_int HR.out.symm,HF5.out⟩
        have HS2:=Lh (show E = if (Tt.prevI t.hols k).any (fun q => decide (d <= q)) = true then 11 else Tt.holF t.first LT t.hols (k + 1) from by rw [<- HK.out,HST.out,if_neg (fun h => h.elim h1 h2)]);by_cases hk0 : k = 0
        · subst hk0;have hki0 : (0 : Int) < (t.hols.length : Int):=by omega
          have hc : wr.cell? ⟨b,o,none⟩ = some (.int .i64 d):=by simpa using hc
          have HR:=Lh (show Tt.holF t.first LT t.hols 1 = E from by rw [HS2.out];rfl);clear hd hc0;go_wp2_with fail;refine (HC.out _ HB.out).mono ?_;rintro e w5 ⟨rfl,hb5⟩;have HB5:=Lh (HB.out.trans (hb5.mono HB.out.size));have HF5:=Lh (HFIN.out.trans (hb5.mono HFIN.out.size));clear hb5 c0 c1 c2 hc;go_wp2_with fail;go_roundw
          case rel => exact ⟨1,by go_num,by omega,HR,HB5⟩
          case measure => simp [intOf];omega
        obtain ⟨d2,hd2⟩ : ∃ d2,t.hols[k - 1]? = some d2:=⟨_,List.getElem?_eq_getElem (by omega)⟩
        have hc2x:=hc0 (k - 1) d2 hd2;have hk3 : (0 : Int) < (k : Int):=by omega
        have hk4 : (0 : Int) <= (k : Int) - 1:=by omega
        have hk5 : (k : Int) - 1 < (t.hols.length : Int):=by omega
        have hk6 : ((k : Int) - 1).toNat = k - 1:=by omega
        have hk7 : wrap64 ((k : Int) - 1) = (k : Int) - 1:=by unfold RowKit.wrap64;omega
        have HPR:=Lh (show Tt.prevI t.hols k = some d2 from by unfold Tt.prevI;rw [if_neg hk0,hd2]);by_cases h3 : d <= d2
        · have HR:=Lh (show E = 11 from by rw [HS2.out,HPR.out];exact if_pos (decide_eq_true h3));clear hd hc0 hd2 hk0;go_wp2_with fail;refine (HC.out _ HB.out).mono ?_;rintro e w5 ⟨rfl,hb5⟩;have HB5:=Lh (HB.out.trans (hb5.mono HB.out.size));have HF5:=Lh (HFIN.out.trans (hb5.mono HFIN.out.size));have hc2y:=(hb5.cell (p:=⟨b,o + (k - 1),none⟩) (by have:=HB.out.size;have:=HPW.out.lt;have:=HBP.out;show b < _;omega)).trans hc2x;have c2y:=(hb5.cell (p:=⟨P,2,none⟩) (by have:=HB.out.size;have:=HPW.out.lt;show P < _;omega)).trans c2;clear hb5 c0 c1 c2 hc hc2x;go_wp2_with fail;go_ret;exact ⟨ret_int HR.out.symm,HF5.out⟩
        · have HR:=Lh (show Tt.holF t.first LT t.hols (k + 1) = E from by rw [HS2.out,HPR.out];exact (if_neg (by simp;omega)).symm);clear hd hc0 hd2 hk0;go_wp2_with fail;refine (HC.out _ HB.out).mono ?_;rintro e w5 ⟨rfl,hb5⟩;have HB5:=Lh (HB.out.trans (hb5.mono HB.out.size));have HF5:=Lh (HFIN.out.trans (hb5.mono HFIN.out.size));have hc2y:=(hb5.cell (p:=⟨b,o + (k - 1),none⟩) (by have:=HB.out.size;have:=HPW.out.lt;have:=HBP.out;show b < _;omega)).trans hc2x;have c2y:=(hb5.cell (p:=⟨P,2,none⟩) (by have:=HB.out.size;have:=HPW.out.lt;show P < _;omega)).trans c2;clear hb5 c0 c1 c2 hc hc2x;go_wp2_with fail;go_roundw
          case rel => exact ⟨k + 1,by go_num,by omega,HR,HB5⟩
          case measure => simp [intOf];omega
      · have hki : ¬ (k : Int) < (t.hols.length : Int):=by omega
        have HR:=Lh (show E = 0 from by rw [<- HK.out];exact Tt.holF_end _ _ _ _ (by omega));have HFIN:=Lh (show Below w.heap.size w wr from HBW.out.trans (HB.out.mono HBW.out.size));go_wp2_with fail;go_ret;exact ⟨ret_int HR.out.symm,HFIN.out⟩
end Go.Proofs.YtageielcdebjlaaGreatDoor
