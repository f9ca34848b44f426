/- ref41.Tell: its contract. ref02.Ascending: its contract. The comparison of two events that feed.Make sorts by. -/
import Derived.Test.YtageielcdebjlaaGreatDoorPk14
import Derived.Test.YtageielcdebjlaaGreatDoorPk17
import Derived.Test.YtageielcdebjlaaGreatDoorPk10
import Derived.Test.YtageielcdebjlaaGreatDoorPk5
import Derived.Test.YtageielcdebjlaaGreatDoorPk4
import Derived.Test.YtageielcdebjlaaGreatDoorPk15
import Derived.Test.YtageielcdebjlaaGreatDoorPk9
import Derived.RegionTactic
import Derived.ChangeAlike
import Derived.BigRegion
set_option maxRecDepth 100000
set_option maxHeartbeats 40000000
namespace Go.Proofs.YtageielcdebjlaaGreatDoor
open Go.RowKit
theorem RowX.mono {lo lo' : Nat} {w : World} {v : Value} {xs : List ByteArray} (h : RowX lo w v xs) (hl : lo' <= lo) : RowX lo' w v xs:=ownsRow_mono h hl
theorem tellV_take (ns : List Nt) (k : Nat) (n : Nt) (h : ns[k]? = some n) : tellV [] (ns.take (k + 1)) = tellS (tellV [] (ns.take k)) n:=by
 unfold tellV;rw [List.take_add_one,h,List.foldl_append];rfl
theorem tellS_yes (S : List ByteArray) (n : Nt) (h : n.kind = 3) : tellS S n = S.filter (fun u => !decide (u = n.uid)):=by
 unfold tellS;rw [if_pos h,List.append_nil]
theorem tellS_no (S : List ByteArray) (n : Nt) (h : ¬ n.kind = 3) : tellS S n = S.filter (fun u => !decide (u = n.uid)) ++ [n.uid]:=by
 unfold tellS;rw [if_neg h]
theorem keep_step (S : List ByteArray) (j : Nat) (x u : ByteArray) (h : S[j]? = some x) : (S.take (j + 1)).filter (fun v => !decide (v = u)) = (S.take j).filter (fun v => !decide (v = u)) ++ (if x = u then [] else [x]):=by
 rw [List.take_add_one,h,Option.toList_some,List.filter_append];congr 1
 by_cases hx : x = u
 ·rw [if_pos hx];simp [hx]
 ·rw [if_neg hx];simp [hx]
theorem tell67 (ns : List Nt) (ao : Option Addr) (c B : Nat) (w : World) (hN : Nts B w ao ns) (hB : B <= w.heap.size) (hn : ns.length <= 100000) : Calls Tryz.prog 67 #[.slice none 0 0,.slice ao ns.length c] w fun e w' => ∃ u : Value,e = .returned u /\ RowX w.heap.size w' u (tellV [] ns) /\ (tellV [] ns).length <= ns.length /\ Below w.heap.size w w':=by
 obtain ⟨i9,hi9,hz0,hz1,hz2⟩:=info_parts infoStr9;have HN:=Lh hN;obtain ⟨m,hm⟩ : ∃ m,m = ns.length:=⟨_,rfl⟩
 rw [<- hm] at hn ⊢;have HM:=Lh hm;clear hN hm;go_enter Tryz.func67,Tryz.ntmps67;go_wp2_with fail;go_loopw [0,5] (fun uv iv wr => ∃ (k : Nat) (S : List ByteArray),k <= m /\ iv = .int .i64 k /\ S.length <= k /\ Hid (S = tellV [] (ns.take k)) /\ Hid (RowX w.heap.size wr uv S) /\ Hid (Below w.heap.size w wr)) (fun _ iv _ => m - (intOf iv).toNat)
 case atStart => exact ⟨0,[],Nat.zero_le _,rfl,Nat.le_refl _,Lh rfl,Lh (RowX.nil _ _),Lh (Below.refl _ _)⟩
 case round =>
  obtain ⟨k,S,hk,rfl,hSl,HS,HX,HL⟩:=hrel;obtain ⟨p,cp,hu⟩:=HX.out.slice;obtain ⟨sl,hsl⟩ : ∃ sl,sl = S.length:=⟨_,rfl⟩
  rw [<- hsl] at hu hSl;subst hu;have HSL:=Lh hsl;clear hsl;by_cases hlt : k < m
  rotate_left
  ·have hki : ¬ (k : Int) < (m : Int):=by omega
   have HE:=Lh (show S = tellV [] ns from by rw [HS.out,show k = ns.length by have:=HM.out;omega,List.take_length]);have HYE:=Lh (show RowX w.heap.size wr (.slice p sl cp) (tellV [] ns) from by rw [<- HE.out];exact HX.out);have HLE:=Lh (show (tellV [] ns).length <= m from by rw [<- HE.out,<- HSL.out];omega);go_wp2_with fail;go_ret;first | exact ⟨_,rfl,HYE.out,HLE.out,HL.out⟩ | exact ⟨HYE.out,HLE.out,HL.out⟩
  have hki : (k : Int) < (m : Int):=by omega
  have hk0 : (0 : Int) <= (k : Int):=by omega
  obtain ⟨n,hne⟩ : ∃ n,ns[k]? = some n:=⟨_,List.getElem?_eq_getElem (by have:=HM.out;omega)⟩
  rcases HN.out with h | ⟨b,o,rfl,hb,hc⟩
  ·rw [h] at hne;cases hne
  have HC:=Lh (show ∀ W,Below w.heap.size w W -> W.cell? ⟨b,o + k * 3,none⟩ = some (.int .i64 n.kind) /\ W.cell? ⟨b,o + k * 3 + 1,none⟩ = some (.string n.uid) from fun W hW => ⟨(hW.cell (p:=⟨b,o + k * 3,none⟩) (Nat.lt_of_lt_of_le hb hB)).trans (hc k n hne).1,(hW.cell (p:=⟨b,o + k * 3 + 1,none⟩) (Nat.lt_of_lt_of_le hb hB)).trans (hc k n hne).2.1⟩);have HNE:=Lh hne;clear hne hc hb;obtain ⟨wz,hwz⟩ : ∃ X,X = wr:=⟨_,rfl⟩
  rw [<- hwz] at HX HL ⊢;clear hwz wr;have hzw:=HL.out.size;go_wp2_with fail;go_loopw [6,7] (fun vv jv wr => ∃ (j : Nat) (T : List ByteArray),j <= sl /\ jv = .int .i64 j /\ T.length <= j /\ Hid (T = (S.take j).filter (fun u => !decide (u = n.uid))) /\ Hid (RowX wz.heap.size wr vv T) /\ Hid (Below wz.heap.size wz wr)) (fun _ jv _ => sl - (intOf jv).toNat)
  case atStart => exact ⟨0,[],Nat.zero_le _,rfl,Nat.le_refl _,Lh rfl,Lh (RowX.nil _ _),Lh (Below.refl _ _)⟩
  case round =>
   obtain ⟨j,T,hj,rfl,hTl,HT,HY,HB⟩:=hrel;obtain ⟨q,cq,hu⟩:=HY.out.slice;obtain ⟨tl,htl⟩ : ∃ tl,tl = T.length:=⟨_,rfl⟩
   rw [<- htl] at hu hTl;subst hu;have HTL:=Lh htl;clear htl;have HLW:=Lh (show Below w.heap.size w wr from HL.out.trans (HB.out.mono hzw));obtain ⟨c0,c1⟩:=HC.out wr HLW.out;by_cases hjl : j < sl
   rotate_left
   ·have hji : ¬ (j : Int) < (sl : Int):=by omega
    have HTE:=Lh (show T = S.filter (fun u => !decide (u = n.uid)) from by rw [HT.out,show j = S.length by have:=HSL.out;omega,List.take_length]);by_cases hkd : n.kind = 3
    ·have HS2:=Lh (show T = tellV [] (ns.take (k + 1)) from by rw [tellV_take ns k n HNE.out,<- HS.out,tellS_yes _ _ hkd,HTE.out]);have hkb : (n.kind == 3) = true:=by simpa using hkd
     rw [hkd] at c0;clear hkd hkb;go_wp2_with fail;go_roundw
     case rel => exact ⟨k + 1,T,by omega,by go_num,by have:=HTL.out;omega,HS2,Lh (RowX.mono HY.out hzw),Lh (HL.out.trans (HB.out.mono hzw))⟩
     case measure => simp [intOf];omega
    ·have HS2:=Lh (show T ++ [n.uid] = tellV [] (ns.take (k + 1)) from by rw [tellV_take ns k n HNE.out,<- HS.out,tellS_no _ _ hkd,HTE.out]);have hkb : (n.kind == 3) = false:=by simpa using hkd
     clear hkd;go_wp2_with (at_builtin;refine wpList_append_own_at _ rfl (.tmp 43) (.tmp 49) 60 rfl wz.heap.size 9 i9 (.string ⟨#[]⟩) 1 16 Tryz.underlying60 hi9 hz0 hz1 hz2 rfl (by decide) _ _ _ rfl (World.ownsRow.alloc HY.out _) ⟨wr.heap.size,0,none⟩ 1 1 [.string n.uid] rfl rfl (cell_one _ _ _) (by intro u hu;simp at hu;subst hu;rfl) (by unfold maxLen;have:=HTL.out;omega) (by have:=HTL.out;omega) (by have:=HB.out.size;simp;omega) ?_);intro v8 x8 hown8 hgrow _ hat;have HB8:=Lh (below_grownBy (HB.out.trans ((below_box wr _).mono HB.out.size)) (World.ownsRow.alloc HY.out _) (Nat.le_refl _) (by have:=HB.out.size;simp;omega) hgrow);have HX8:=Lh (show RowX wz.heap.size x8 v8 (T ++ [n.uid]) from RowX.snoc hown8);clear hown8 hgrow hat;clear c0 c1;go_wp2_with fail;go_roundw
     case rel => exact ⟨k + 1,(T ++ [n.uid]),by omega,by go_num,by rw [List.length_append];simp;have:=HTL.out;omega,HS2,Lh (RowX.mono HX8.out hzw),Lh (HL.out.trans (HB8.out.mono hzw))⟩
     case measure => simp [intOf];omega
   have hji : (j : Int) < (sl : Int):=by omega
   have hj0 : (0 : Int) <= (j : Int):=by omega
   obtain ⟨x,hx⟩ : ∃ x,S[j]? = some x:=⟨_,List.getElem?_eq_getElem (by have:=HSL.out;omega)⟩
   obtain ⟨g,rfl,hgc⟩:=RowX.at_ HX.out hx;have hgz : g < wz.heap.size:=(World.ownsRow.lt HX.out g rfl).2;have d0 : wr.cell? ⟨g,j,none⟩ = some (.string x):=(HB.out.cell (p:=⟨g,j,none⟩) hgz).trans hgc;have HXJ:=Lh hx;clear hx;obtain ⟨eb,heb⟩ : ∃ eb,(x.toList == n.uid.toList) = eb:=⟨_,rfl⟩
   have HEB:=Lh (show eb = decide (x = n.uid) from by rw [<- heb];exact dec_bytes _ _);go_wp2_with fail;go_quiet (fail)
   obtain ⟨wy,hq⟩ : ∃ X,X = wr.drewN nq:=⟨_,rfl⟩
   have HYy:=Lh (show RowX wz.heap.size wy (.slice q tl cq) T from by rw [hq];exact HY.out);have HBy:=Lh (show Below wz.heap.size wz wy from by rw [hq];exact HB.out.trans ⟨rfl,rfl,rfl,Nat.le_refl _,fun k hk => rfl⟩);rw [<- hq];clear hq nq c0 c1 d0;have d0 : wy.cell? ⟨g,j,none⟩ = some (.string x):=(HBy.out.cell (p:=⟨g,j,none⟩) hgz).trans hgc;clear HY HB;have HY:=HYy;have HB:=HBy;clear HYy HBy;obtain ⟨wr,hwr⟩ : ∃ X,X = wy:=⟨_,rfl⟩
   rw [<- hwr] at HY HB d0 ⊢;clear hwr wy;cases eb
   ·have HT2:=Lh (show T ++ [x] = (S.take (j + 1)).filter (fun u => !decide (u = n.uid)) from by rw [keep_step S j x n.uid HXJ.out,<- HT.out,if_neg (by have:=HEB.out;simpa using this.symm)]);go_wp2_with (at_builtin;refine wpList_append_own_at _ rfl (.tmp 30) (.tmp 35) 60 rfl wz.heap.size 9 i9 (.string ⟨#[]⟩) 1 16 Tryz.underlying60 hi9 hz0 hz1 hz2 rfl (by decide) _ _ _ rfl (World.ownsRow.alloc HY.out _) ⟨wr.heap.size,0,none⟩ 1 1 [.string x] rfl rfl (cell_one _ _ _) (by intro u hu;simp at hu;subst hu;rfl) (by unfold maxLen;have:=HTL.out;omega) (by have:=HTL.out;omega) (by have:=HB.out.size;simp;omega) ?_);intro v8 x8 hown8 hgrow _ hat;have HB8:=Lh (below_grownBy (HB.out.trans ((below_box wr _).mono HB.out.size)) (World.ownsRow.alloc HY.out _) (Nat.le_refl _) (by have:=HB.out.size;simp;omega) hgrow);have HX8:=Lh (show RowX wz.heap.size x8 v8 (T ++ [x]) from RowX.snoc hown8);clear hown8 hgrow hat;clear d0;go_wp2_with fail;go_roundw
    case rel => exact ⟨j + 1,T ++ [x],by omega,by go_num,by rw [List.length_append];simp;have:=HTL.out;omega,HT2,HX8,HB8⟩
    case measure => simp [intOf];omega
   ·have HT2:=Lh (show T = (S.take (j + 1)).filter (fun u => !decide (u = n.uid)) from by rw [keep_step S j x n.uid HXJ.out,<- HT.out,if_pos (by have:=HEB.out;simpa using this.symm),List.append_nil]);go_wp2_with fail;go_roundw
    case rel => exact ⟨j + 1,T,by omega,by go_num,by have:=HTL.out;omega,HT2,HY,HB⟩
    case measure => simp [intOf];omega
theorem RowX.strAt {lo n c : Nat} {w : World} {ao : Option Addr} {xs : List ByteArray} (h : RowX lo w (.slice ao n c) xs) : StrAt w ao xs:=fun j x hj => by
 obtain ⟨g,rfl,hc⟩:=RowX.at_ h hj;exact ⟨⟨g,0,none⟩,rfl,by rw [Addr.add_lit,Nat.zero_add];exact hc⟩
theorem tellV_len (ns : List Nt) : ∀ S : List ByteArray,(tellV S ns).length <= S.length + ns.length:=by
 induction ns with
 | nil => intro S;exact Nat.le_refl _
 | cons n r ih =>
  intro S;have h1:=ih (tellS S n);have h2 : (tellS S n).length <= S.length + 1:=by
   unfold tellS;rw [List.length_append];have:=List.length_filter_le (fun u => !decide (u = n.uid)) S;split <;> simp <;> omega
  show (tellV (tellS S n) r).length <= _
  rw [List.length_cons];omega
theorem ascV_take (xs : List ByteArray) (k : Nat) (x : ByteArray) (h : xs[k]? = some x) : ascV (xs.take (k + 1)) = insS (ascV (xs.take k)) x:=by
 unfold ascV;rw [List.take_add_one,h,List.foldl_append];rfl
theorem insS_len (out : List ByteArray) (x : ByteArray) : (insS out x).length = out.length + 1:=(insS_perm x out).length_eq
theorem ascV_len (xs : List ByteArray) : (ascV xs).length = xs.length:=by
 have : ∀ (l out : List ByteArray),(l.foldl insS out).length = out.length + l.length:=by
  intro l;induction l with
  | nil => intro out;rfl
  | cons x r ih => intro out;rw [List.foldl_cons,ih,insS_len,List.length_cons];omega
 have h:=this xs [];rw [List.length_nil] at h;unfold ascV;omega
theorem insK_step {x y : ByteArray} {O : List ByteArray} {j : Nat} (h : O[j]? = some y) : insK x O (j + 1) = if lessU x y = true then insK x O j else j + 1:=by
 rw [insK,h]
theorem strs_one (O : List ByteArray) : ∀ u ∈ O.map Value.string,u.oneCell' = true:=by
 intro u hu;obtain ⟨n, -,rfl⟩:=List.mem_map.1 hu;rfl
theorem own_one {x : World} {h lo : Nat} {s : ByteArray} (hb : Blk h #[.string s] 9 x) (hl : lo <= h) : x.ownsRow lo 9 1 (.slice (some ⟨h,0,none⟩) 1 1) 1 [.string s] :=
 ⟨rfl,.inr ⟨h,1,_,rfl,hl,hb,Nat.le_refl _,by decide,rfl,rfl⟩⟩
theorem own_cap {lo n c : Nat} {po : Option Addr} {e : TypeId} {w : World} {xs : List Value} (h : w.ownsRow lo e 1 (.slice po n c) n xs) : n <= c:=by
 rcases h.2 with ⟨h2, -⟩ | ⟨g',cap,cur,hv,h3,h4,h5,h6,h7,h8⟩
 ·simp only [Value.slice.injEq] at h2;omega
 ·simp only [Value.slice.injEq] at hv;omega
theorem own_none {lo n c : Nat} {po : Option Addr} {e : TypeId} {w : World} {xs : List Value} (h : w.ownsRow lo e 1 (.slice po n c) n xs) : w.ownsRow lo e 1 (.slice po 0 c) 0 []:=by
 refine ⟨rfl,?_⟩;rcases h.2 with ⟨h2, -⟩ | ⟨g,cap,cur,hv,h3,h4,h5,h6,h7,h8⟩
 ·simp only [Value.slice.injEq] at h2;obtain ⟨rfl, -,rfl⟩:=h2;exact .inl ⟨rfl,rfl⟩
 ·simp only [Value.slice.injEq] at hv;obtain ⟨rfl, -,rfl⟩:=hv;exact .inr ⟨g,c,cur,rfl,h3,h4,Nat.zero_le _,h6,h7,by simp⟩
theorem own_drop {lo n c g K j : Nat} {w : World} {xs : List Value} {u : Value} (h : w.ownsRow lo 9 1 (.slice (some ⟨g,0,none⟩) n c) n xs) (hn : n = xs.length) (hj : (xs.drop K)[j]? = some u) : w.cell? ((if c = K then (⟨g,0,none⟩ : Addr) else ⟨g,K,none⟩).add j) = some u:=by
 rw [List.getElem?_drop] at hj;have hlt:=(List.getElem?_eq_some_iff.1 hj).1;have hc : n <= c:=by
  rcases h.2 with ⟨h2, -⟩ | ⟨g',cap,cur,hv,h3,h4,h5,h6,h7,h8⟩
  ·cases h2
  ·simp only [Value.slice.injEq] at hv;omega
 rw [if_neg (by omega)];have:=World.ownsRow.cells h (g:=g) rfl (K + j) u hj;rw [Addr.add_lit] at this ⊢;rw [<- this,Nat.zero_add]
theorem ownsRow_take {lo n c g K : Nat} {e : TypeId} {w : World} {xs : List Value} (h : w.ownsRow lo e 1 (.slice (some ⟨g,0,none⟩) n c) n xs) (hK : K <= n) : w.ownsRow lo e 1 (.slice (some ⟨g,0,none⟩) K c) K (xs.take K):=by
 obtain ⟨h1,h2⟩:=h;rcases h2 with ⟨h2, -⟩ | ⟨g',cap,cur,hv,h3,h4,h5,h6,h7,h8⟩
 ·cases h2
 ·cases hv;refine ⟨by rw [List.length_take];omega,.inr ⟨g,c,cur,rfl,h3,h4,by omega,h6,h7,?_⟩⟩;rw [<- h8,List.take_take,Nat.mul_one,Nat.mul_one,Nat.min_eq_left hK]
theorem asc66 (lo : Nat) (xs : List ByteArray) (ao : Option Addr) (c : Nat) (w : World) (hX : RowX lo w (.slice ao xs.length c) xs) (hn : xs.length <= 100000) : Calls Tryz.prog 66 #[.slice ao xs.length c] w fun e w' => ∃ u : Value,e = .returned u /\ RowX w.heap.size w' u (ascV xs) /\ Below w.heap.size w w':=by
 obtain ⟨i9,hi9,hz0,hz1,hz2⟩:=info_parts infoStr9;have HX:=Lh hX;obtain ⟨n,hnn⟩ : ∃ n,n = xs.length:=⟨_,rfl⟩
 rw [<- hnn] at HX hn ⊢;have HN:=Lh hnn;clear hX hnn;go_enter Tryz.func66,Tryz.ntmps66;go_wp2_with fail;go_loopw [3,4] (fun uv iv wr => ∃ (k : Nat) (O : List ByteArray),k <= n /\ iv = .int .i64 k /\ Hid (O = ascV (xs.take k)) /\ Hid (RowX w.heap.size wr uv O) /\ Hid (Below w.heap.size w wr)) (fun _ iv _ => n - (intOf iv).toNat)
 case atStart => exact ⟨0,[],Nat.zero_le _,rfl,Lh rfl,Lh (RowX.nil _ _),Lh (Below.refl _ _)⟩
 case round =>
  obtain ⟨k,O,hk,rfl,HO,HU,HL⟩:=hrel;have HOL:=Lh (show O.length = k from by rw [HO.out,ascV_len,List.length_take];have:=HN.out;omega);by_cases hlt : k < n
  rotate_left
  ·have hki : ¬ (k : Int) < (n : Int):=by omega
   have HE:=Lh (show RowX w.heap.size wr _ (ascV xs) from by have h:=HU.out;rw [HO.out,show k = xs.length by have:=HN.out;omega,List.take_length] at h;exact h);go_wp2_with fail;go_ret;first | exact ⟨_,rfl,HE.out,HL.out⟩ | exact ⟨HE.out,HL.out⟩
  have hki : (k : Int) < (n : Int):=by omega
  have hk0 : (0 : Int) <= (k : Int):=by omega
  obtain ⟨s,hs⟩ : ∃ s,xs[k]? = some s:=⟨_,List.getElem?_eq_getElem (by have:=HN.out;omega)⟩
  obtain ⟨gx,rfl,hgx⟩:=RowX.at_ HX.out hs;have hgw : gx < w.heap.size:=(World.ownsRow.lt HX.out gx rfl).2;have HC:=Lh (show ∀ W,Below w.heap.size w W -> W.cell? ⟨gx,k,none⟩ = some (.string s) from fun W hW => (hW.cell (p:=⟨gx,k,none⟩) hgw).trans hgx);have HXS:=Lh hs;clear hs hgx;obtain ⟨wz,hwz⟩ : ∃ X,X = wr:=⟨_,rfl⟩
  rw [<- hwz] at HU HL ⊢;clear hwz wr;have hzw:=HL.out.size;obtain ⟨po,co,hpo⟩:=HU.out.slice;obtain ⟨N,hN⟩ : ∃ N,N = O.length:=⟨_,rfl⟩
  rw [<- hN] at hpo HOL;subst hpo;have HNO:=Lh hN;clear hN;have hNk : N = k:=HOL.out;subst hNk;clear HOL;go_wp2_with fail;go_loopw [5] (fun jv wr => ∃ j : Nat,jv = .int .i64 j /\ j <= N /\ Hid (insK s O O.length = insK s O j) /\ Hid (Below wz.heap.size wz wr) /\ Hid (RowX w.heap.size wr (.slice po N co) O)) (fun jv _ => (intOf jv).toNat)
  case atStart => exact ⟨N,rfl,Nat.le_refl _,Lh (by rw [<- HNO.out]),Lh (Below.refl _ _),HU⟩
  case round =>
   obtain ⟨j,rfl,hj,HK,HB,HR⟩:=hrel;have HLW:=Lh (show Below w.heap.size w wr from HL.out.trans (HB.out.mono hzw));have c0:=HC.out wr HLW.out;have hn0 : ((N : Int)).toNat = N:=by omega
   rcases Nat.eq_zero_or_pos j with hj0 | hj0
   ·subst hj0;have hz : ¬ (0 : Int) < ((0 : Nat) : Int):=by decide
    have HKE:=Lh (show insK s O O.length = 0 from by rw [HK.out];rfl);go_wp2_with fail;go_quiet (fail)
    obtain ⟨wy,hq⟩ : ∃ X,X = wr.drewN nq:=⟨_,rfl⟩
    have HBy:=Lh (show Below wz.heap.size wz wy from by rw [hq];exact HB.out.trans ⟨rfl,rfl,rfl,Nat.le_refl _,fun k hk => rfl⟩);have HRy:=Lh (show RowX w.heap.size wy (.slice po N co) O from by rw [hq];exact HR.out);have HLy:=Lh (show Below w.heap.size w wy from HL.out.trans (HBy.out.mono hzw));rw [<- hq];clear hq nq;have HIN:=Lh (show O.take (0) ++ s :: O.drop (0) = ascV (xs.take (N + 1)) from by rw [ascV_take xs N s HXS.out,<- HO.out];unfold insS;rw [HKE.out]);have HKN:=Lh (show 0 <= O.length from by rw [<- HNO.out];omega);have HRW:=Lh (show ∀ W,Below wy.heap.size wy W -> W.ownsRow w.heap.size 9 1 (.slice po N co) N (O.map Value.string) from fun W hW => by have h:=row_made (show wy.ownsRow w.heap.size 9 1 (.slice po N co) O.length (O.map Value.string) from HRy.out) hW;rwa [<- HNO.out] at h);have HPW:=Lh (show ∀ W,Below wy.heap.size wy W -> W.ownsRow w.heap.size 9 1 (.slice po 0 co) 0 ((O.take 0).map Value.string) from fun W hW => own_none (HRW.out W hW));go_upto_region 8 with (fail);refine wp_region_tail 12 (by kernel_rfl) (fun listed a x => ∃ (l0 l1 l2 l3 l4 l5 l6 l7 l8 l9 l10 l11 : Bool) (t30 t31 t32 t33 t34 t35 t36 t37 t38 t39 t40 t41 : Value),listed = #[l0,l1,l2,l3,l4,l5,l6,l7,l8,l9,l10,l11,false,false] /\ a = ⟨(.slice (some ⟨gx,0,none⟩) n c :: undef :: .slice none 0 0 :: .slice po N co :: .int .i64 N :: .int .i64 0 :: .int .i64 N :: .slice (some ⟨gx,0,none⟩) n c :: .int .i64 n :: .bool true :: u10 :: u11 :: .slice po N co :: .int .i64 N :: .int .i64 0 :: .bool false :: .bool false :: undef :: undef :: undef :: undef :: undef :: undef :: undef :: undef :: undef :: undef :: .bool false :: u28 :: u29 :: t30 :: t31 :: t32 :: t33 :: t34 :: t35 :: t36 :: t37 :: t38 :: t39 :: t40 :: t41 :: u42 :: undef :: []).toArray,[]⟩ /\ Hid (l0 = true -> t30 = .slice po N co) /\ Hid (l1 = true -> t31 = .int .i64 0) /\ Hid (l2 = true -> t32 = .slice po 0 co) /\ Hid (l3 = true -> t33 = .slice (some ⟨gx,0,none⟩) n c) /\ Hid (l4 = true -> t34 = .int .i64 N) /\ Hid (l5 = true -> t35 = .pointer (some ⟨gx,N,none⟩)) /\ Hid (l6 = true -> t36 = .string s) /\ Hid (l7 = true -> l11 = false -> ∃ (h : Nat),t37 = .slice (some ⟨h,0,none⟩) 1 1 /\ wy.heap.size <= h /\ Blk h #[.string s] 9 x) /\ Hid (l8 = true -> t38 = .slice po N co) /\ Hid (l9 = true -> t39 = .int .i64 0) /\ Hid (l10 = true -> t40 = .slice po N co) /\ Hid (l11 = true -> ∃ (v : Value),t41 = v /\ RowX wy.heap.size x v (s :: O) /\ l7 = true) /\ Hid (Made wy x)) (by decide) (by kernel_rfl) (by kernel_rfl) ?_ ?_ ?_ ?_
    ·exact ⟨false,false,false,false,false,false,false,false,false,false,false,false,_,_,_,_,_,_,_,_,_,_,_,_,rfl,rfl,Lh (fun h => by cases h),Lh (fun h => by cases h),Lh (fun h => by cases h),Lh (fun h => by cases h),Lh (fun h => by cases h),Lh (fun h => by cases h),Lh (fun h => by cases h),Lh (fun h => by cases h),Lh (fun h => by cases h),Lh (fun h => by cases h),Lh (fun h => by cases h),Lh (fun h => by cases h),Lh (Made.start wy)⟩
    ·intro listed a x hj;obtain ⟨l0,l1,l2,l3,l4,l5,hj⟩:=hj;obtain ⟨l6,l7,l8,l9,l10,l11,hj⟩:=hj;obtain ⟨t30,t31,t32,t33,t34,t35,hj⟩:=hj;obtain ⟨t36,t37,t38,t39,t40,t41,hj⟩:=hj;obtain ⟨h1, -⟩:=hj;subst h1;exact ⟨rfl,fun k h1 h2 => by (have h2 : k < 14:=h2);rcases (show k = 12 ∨ k = 13 by omega) with rfl | rfl <;> rfl⟩
    ·intro listed a x i hj hlt hu haf;obtain ⟨l0,l1,l2,l3,l4,l5,hj⟩:=hj;obtain ⟨l6,l7,l8,l9,l10,l11,hj⟩:=hj;obtain ⟨t30,t31,t32,t33,t34,t35,hj⟩:=hj;obtain ⟨t36,t37,t38,t39,t40,t41,hj⟩:=hj;obtain ⟨hl_,ha_,H0,H1,H2,H3,hj⟩:=hj;obtain ⟨H4,H5,H6,H7,H8,H9,hj⟩:=hj;obtain ⟨H10,H11,hj⟩:=hj;have HS:=hj;clear hj;subst hl_;subst ha_;rcases (show ∀ i : Nat,i < 12 -> (i = 0 ∨ i = 1 ∨ i = 2 ∨ i = 3 ∨ i = 4 ∨ i = 5 ∨ i = 6 ∨ i = 7 ∨ i = 8 ∨ i = 9 ∨ i = 10 ∨ i = 11) by decide) i hlt with rfl | rfl | rfl | rfl | rfl | rfl | rfl | rfl | rfl | rfl | rfl | rfl
     ·have haf:=haf _ rfl;clear haf;have hu : l0 = false:=hu;refine wpOp_of_list_any rfl fun QQ hQ => ?_
      have hQQ:=Lh hQ;clear hQ;simp only [List.getElem_toArray,List.getElem_cons_zero];go_wp2_with fail;exact hQQ.out _ _ ⟨true,l1,l2,l3,l4,l5,l6,l7,l8,l9,l10,l11,_,_,_,_,_,_,_,_,_,_,_,_,rfl,rfl,Lh (fun _ => rfl),H1,H2,H3,H4,H5,H6,H7,H8,H9,H10,H11,HS⟩
     ·have haf:=haf _ rfl;clear haf;have hu : l1 = false:=hu;refine wpOp_of_list_any rfl fun QQ hQ => ?_
      have hQQ:=Lh hQ;clear hQ;simp only [List.getElem_toArray,List.getElem_cons_zero,List.getElem_cons_succ];go_wp2_with fail;exact hQQ.out _ _ ⟨l0,true,l2,l3,l4,l5,l6,l7,l8,l9,l10,l11,_,_,_,_,_,_,_,_,_,_,_,_,rfl,rfl,H0,Lh (fun _ => rfl),H2,H3,H4,H5,H6,H7,H8,H9,H10,H11,HS⟩
     ·have haf:=haf _ rfl;have q0 : l0 = true:=haf ⟨0,Go.Ground.data⟩ (by simp) rfl;have q1 : l1 = true:=haf ⟨1,Go.Ground.data⟩ (by simp) rfl;clear haf;have hu : l2 = false:=hu;have e0:=(H0.out q0)
      subst e0;clear H0;have e1:=(H1.out q1)
      subst e1;clear H1;refine wpOp_of_list_any rfl fun QQ hQ => ?_
      have hQQ:=Lh hQ;clear hQ;simp only [List.getElem_toArray,List.getElem_cons_zero,List.getElem_cons_succ];go_wp2_with fail;exact hQQ.out _ _ ⟨l0,l1,true,l3,l4,l5,l6,l7,l8,l9,l10,l11,_,_,_,_,_,_,_,_,_,_,_,_,rfl,rfl,Lh (fun _ => rfl),Lh (fun _ => rfl),Lh (fun _ => rfl),H3,H4,H5,H6,H7,H8,H9,H10,H11,HS⟩
     ·have haf:=haf _ rfl;clear haf;have hu : l3 = false:=hu;refine wpOp_of_list_any rfl fun QQ hQ => ?_
      have hQQ:=Lh hQ;clear hQ;simp only [List.getElem_toArray,List.getElem_cons_zero,List.getElem_cons_succ];go_wp2_with fail;exact hQQ.out _ _ ⟨l0,l1,l2,true,l4,l5,l6,l7,l8,l9,l10,l11,_,_,_,_,_,_,_,_,_,_,_,_,rfl,rfl,H0,H1,H2,Lh (fun _ => rfl),H4,H5,H6,H7,H8,H9,H10,H11,HS⟩
     ·have haf:=haf _ rfl;clear haf;have hu : l4 = false:=hu;refine wpOp_of_list_any rfl fun QQ hQ => ?_
      have hQQ:=Lh hQ;clear hQ;simp only [List.getElem_toArray,List.getElem_cons_zero,List.getElem_cons_succ];go_wp2_with fail;exact hQQ.out _ _ ⟨l0,l1,l2,l3,true,l5,l6,l7,l8,l9,l10,l11,_,_,_,_,_,_,_,_,_,_,_,_,rfl,rfl,H0,H1,H2,H3,Lh (fun _ => rfl),H5,H6,H7,H8,H9,H10,H11,HS⟩
     ·have haf:=haf _ rfl;have q3 : l3 = true:=haf ⟨3,Go.Ground.data⟩ (by simp) rfl;have q4 : l4 = true:=haf ⟨4,Go.Ground.data⟩ (by simp) rfl;clear haf;have hu : l5 = false:=hu;have e3:=(H3.out q3)
      subst e3;clear H3;have e4:=(H4.out q4)
      subst e4;clear H4;refine wpOp_of_list_any rfl fun QQ hQ => ?_
      have hQQ:=Lh hQ;clear hQ;simp only [List.getElem_toArray,List.getElem_cons_zero,List.getElem_cons_succ];go_wp2_with fail;exact hQQ.out _ _ ⟨l0,l1,l2,l3,l4,true,l6,l7,l8,l9,l10,l11,_,_,_,_,_,_,_,_,_,_,_,_,rfl,rfl,H0,H1,H2,Lh (fun _ => rfl),Lh (fun _ => rfl),Lh (fun _ => rfl),H6,H7,H8,H9,H10,H11,HS⟩
     ·have haf:=haf _ rfl;have q5 : l5 = true:=haf ⟨5,Go.Ground.data⟩ (by simp) rfl;clear haf;have hu : l6 = false:=hu;have e5:=(H5.out q5)
      subst e5;clear H5;have hc:=HC.out x (HLy.out.trans (HS.out.below.mono HLy.out.size));refine wpOp_of_list_any rfl fun QQ hQ => ?_
      have hQQ:=Lh hQ;clear hQ;simp only [List.getElem_toArray,List.getElem_cons_zero,List.getElem_cons_succ];go_wp2_with fail;exact hQQ.out _ _ ⟨l0,l1,l2,l3,l4,l5,true,l7,l8,l9,l10,l11,_,_,_,_,_,_,_,_,_,_,_,_,rfl,rfl,H0,H1,H2,H3,H4,Lh (fun _ => rfl),Lh (fun _ => rfl),H7,H8,H9,H10,H11,HS⟩
     ·have haf:=haf _ rfl;have q6 : l6 = true:=haf ⟨6,Go.Ground.data⟩ (by simp) rfl;clear haf;have hu : l7 = false:=hu;have e6:=(H6.out q6)
      subst e6;clear H6;refine wpOp_of_list_any rfl fun QQ hQ => ?_
      have hQQ:=Lh hQ;clear hQ;simp only [List.getElem_toArray,List.getElem_cons_zero,List.getElem_cons_succ];go_wp2_with fail;exact hQQ.out _ _ ⟨l0,l1,l2,l3,l4,l5,l6,true,l8,l9,l10,l11,_,_,_,_,_,_,_,_,_,_,_,_,rfl,rfl,H0,H1,H2,H3,H4,H5,Lh (fun _ => rfl),Lh (fun _ _ => ⟨_,rfl,HS.out.below.size,Blk.new x _ _⟩),H8,H9,H10,Lh (fun h => absurd (hu.symm.trans (by obtain ⟨v,e,c0,c1⟩:=H11.out h;exact c1)) (by decide)),Lh (HS.out.alloc _)⟩
     ·have haf:=haf _ rfl;clear haf;have hu : l8 = false:=hu;refine wpOp_of_list_any rfl fun QQ hQ => ?_
      have hQQ:=Lh hQ;clear hQ;simp only [List.getElem_toArray,List.getElem_cons_zero,List.getElem_cons_succ];go_wp2_with fail;exact hQQ.out _ _ ⟨l0,l1,l2,l3,l4,l5,l6,l7,true,l9,l10,l11,_,_,_,_,_,_,_,_,_,_,_,_,rfl,rfl,H0,H1,H2,H3,H4,H5,H6,H7,Lh (fun _ => rfl),H9,H10,H11,HS⟩
     ·have haf:=haf _ rfl;clear haf;have hu : l9 = false:=hu;refine wpOp_of_list_any rfl fun QQ hQ => ?_
      have hQQ:=Lh hQ;clear hQ;simp only [List.getElem_toArray,List.getElem_cons_zero,List.getElem_cons_succ];go_wp2_with fail;exact hQQ.out _ _ ⟨l0,l1,l2,l3,l4,l5,l6,l7,l8,true,l10,l11,_,_,_,_,_,_,_,_,_,_,_,_,rfl,rfl,H0,H1,H2,H3,H4,H5,H6,H7,H8,Lh (fun _ => rfl),H10,H11,HS⟩
     ·have haf:=haf _ rfl;have q8 : l8 = true:=haf ⟨8,Go.Ground.data⟩ (by simp) rfl;have q9 : l9 = true:=haf ⟨9,Go.Ground.data⟩ (by simp) rfl;clear haf;have hu : l10 = false:=hu;have e8:=(H8.out q8)
      subst e8;clear H8;have e9:=(H9.out q9)
      subst e9;clear H9;refine wpOp_of_list_any rfl fun QQ hQ => ?_
      have hQQ:=Lh hQ;clear hQ;simp only [List.getElem_toArray,List.getElem_cons_zero,List.getElem_cons_succ];go_wp2_with fail;exact hQQ.out _ _ ⟨l0,l1,l2,l3,l4,l5,l6,l7,l8,l9,true,l11,_,_,_,_,_,_,_,_,_,_,_,_,rfl,rfl,H0,H1,H2,H3,H4,H5,H6,H7,Lh (fun _ => rfl),Lh (fun _ => rfl),Lh (fun _ => rfl),H11,HS⟩
     ·have haf:=haf _ rfl;have q7 : l7 = true:=haf ⟨7,Go.Ground.data⟩ (by simp) rfl;have q10 : l10 = true:=haf ⟨10,Go.Ground.data⟩ (by simp) rfl;clear haf;have hu : l11 = false:=hu;obtain ⟨h7,e7,c7_0,c7_1⟩:=(H7.out q7 hu)
      subst e7;clear H7;have e10:=(H10.out q10)
      subst e10;clear H10;refine wpOp_of_list_any rfl fun QQ hQ => ?_
      have hQQ:=Lh hQ;clear hQ;simp only [List.getElem_toArray,List.getElem_cons_zero,List.getElem_cons_succ];go_wp2_with (at_builtin;refine wpList_append_row rfl (.tmp 37) (.tmp 40) 60 rfl wy.heap.size 9 i9 (.string ⟨#[]⟩) 1 16 Tryz.underlying60 hi9 hz0 hz1 hz2 rfl (by decide) _ 1 _ rfl (own_one c7_1 c7_0) w.heap.size (.slice po N co) N (O.map Value.string) rfl (HRW.out x HS.out.below) (strs_one _) (by unfold maxLen;have:=HNO.out;omega) (by have:=HNO.out;omega) HS.out.below.size ?_);intro v11 x1 hown hgrow hat;have HS1:=Lh (show Made wy x1 from ⟨below_grownBy HS.out.below (own_one c7_1 c7_0) (Nat.le_refl _) HS.out.below.size hgrow⟩);have HX1:=Lh (show RowX wy.heap.size x1 v11 (s :: O) from by unfold RowX;rw [show (s :: O).length = 1 + N from by rw [List.length_cons];have:=HNO.out;omega];exact hown);clear hown hgrow hat;go_wp2_with fail;exact hQQ.out _ _ ⟨l0,l1,l2,l3,l4,l5,l6,l7,l8,l9,l10,true,_,_,_,_,_,_,_,_,_,_,_,_,rfl,rfl,H0,H1,H2,H3,H4,H5,H6,Lh (fun _ h => by cases h),H8,H9,Lh (fun _ => rfl),Lh (fun _ => ⟨_,rfl,HX1.out,q7⟩),HS1⟩
    ·intro listed a x hj hall;obtain ⟨l0,l1,l2,l3,l4,l5,hj⟩:=hj;obtain ⟨l6,l7,l8,l9,l10,l11,hj⟩:=hj;obtain ⟨t30,t31,t32,t33,t34,t35,hj⟩:=hj;obtain ⟨t36,t37,t38,t39,t40,t41,hj⟩:=hj;obtain ⟨hl_,ha_,H0,H1,H2,H3,hj⟩:=hj;obtain ⟨H4,H5,H6,H7,H8,H9,hj⟩:=hj;obtain ⟨H10,H11,hj⟩:=hj;have HS:=hj;clear hj;subst hl_;subst ha_;have q2 : l2 = true:=hall 2 (by omega);have q11 : l11 = true:=hall 11 (by omega);clear hall;have e2:=(H2.out q2)
     subst e2;obtain ⟨v11,e11,c11_0,c11_1⟩:=(H11.out q11)
     subst e11;obtain ⟨pa,ca,hpa⟩:=RowX.slice c11_0;subst hpa;refine tail_any (fun a x => ∃ (t3 t30 t31 t32 t33 t34 t35 t36 t37 t38 t39 t40 t41 t42 : Value),a = ⟨(.slice (some ⟨gx,0,none⟩) n c :: undef :: .slice none 0 0 :: t3 :: .int .i64 N :: .int .i64 0 :: .int .i64 N :: .slice (some ⟨gx,0,none⟩) n c :: .int .i64 n :: .bool true :: u10 :: u11 :: .slice po N co :: .int .i64 N :: .int .i64 0 :: .bool false :: .bool false :: undef :: undef :: undef :: undef :: undef :: undef :: undef :: undef :: undef :: undef :: .bool false :: u28 :: u29 :: t30 :: t31 :: t32 :: t33 :: t34 :: t35 :: t36 :: t37 :: t38 :: t39 :: t40 :: t41 :: t42 :: undef :: []).toArray,[]⟩ /\ RowX w.heap.size x t3 (ascV (xs.take (N + 1))) /\ Below w.heap.size w x) ?_ fun QQ hQ => ?_
     ·intro a x hpost;obtain ⟨t3,t30,t31,t32,t33,t34,hpost⟩:=hpost;obtain ⟨t35,t36,t37,t38,t39,t40,hpost⟩:=hpost;obtain ⟨t41,t42,ha_,hpost⟩:=hpost;subst ha_;obtain ⟨hx9,hl9⟩:=hpost;have HX9:=Lh hx9;have HL9:=Lh hl9;clear hx9 hl9;go_wp2_with fail;go_roundw
      case rel => exact ⟨N + 1,_,by omega,by go_num,Lh rfl,HX9,HL9⟩
      case measure => simp [intOf];omega
     have hQQ:=Lh hQ;clear hQ;simp only [List.drop_succ_cons,List.drop_zero];go_wp2_with (at_builtin;refine wpList_append_row rfl (.tmp 32) (.tmp 41) 60 rfl w.heap.size 9 i9 (.string ⟨#[]⟩) 1 16 Tryz.underlying60 hi9 hz0 hz1 hz2 rfl (by decide) _ 0 _ rfl (HPW.out x HS.out.below) wy.heap.size _ _ _ rfl c11_0 (strs_one _) (by unfold maxLen;rw [List.length_cons];have:=HNO.out;omega) (by rw [List.length_cons];have:=HNO.out;omega) (Nat.le_trans HLy.out.size HS.out.below.size) ?_);intro v12 x2 hown hgrow hat;have HL2:=Lh (below_grownBy (HLy.out.trans (HS.out.below.mono HLy.out.size)) (HPW.out x HS.out.below) (Nat.le_refl _) (Nat.le_trans HLy.out.size HS.out.below.size) hgrow);have HX2:=Lh (show RowX w.heap.size x2 v12 (ascV (xs.take (N + 1))) from by
     rw [<- HIN.out];unfold RowX;rw [List.length_append,List.map_append,List.length_take,Nat.min_eq_left HKN.out];simpa using hown)
     clear hown hgrow hat;go_wp2_with fail;exact hQQ.out _ _ ⟨_,_,_,_,_,_,_,_,_,_,_,_,_,_,rfl,HX2.out,HL2.out⟩
   obtain ⟨i,rfl⟩ : ∃ i,j = i + 1:=⟨j - 1,by omega⟩
   rw [show ((i + 1 : Nat) : Int) = (i : Int) + 1 from by omega];clear hj0;obtain ⟨y,hy⟩ : ∃ y,O[i]? = some y:=⟨_,List.getElem?_eq_getElem (by have:=HNO.out;omega)⟩
   obtain ⟨g,rfl,hgc⟩:=RowX.at_ HR.out hy;have hp : (0 : Int) < (i : Int) + 1:=by omega
   have hsub : ((i : Int) + 1 - 1).toNat = i:=by omega
   have hsb2 : (i : Int) + 1 - 1 = (i : Int):=by omega
   have hwk : IntKind.i64.wrap ((i : Int) + 1 - 1) = (i : Int):=by rw [IntKind.wrap_i64];omega
   have hwk0 : IntKind.i64.wrap (i : Int) = (i : Int):=by rw [IntKind.wrap_i64];omega
   have hi0 : (0 : Int) <= (i : Int):=by omega
   have hiN : (i : Int) < (N : Int):=by omega
   have hin : ((i : Int)).toNat = i:=by omega
   obtain ⟨lb,hlb⟩ : ∃ lb,Op.bytesLess s.toList y.toList = lb:=⟨_,rfl⟩
   have HST:=Lh (show insK s O O.length = if lb = true then insK s O i else i + 1 from by rw [HK.out,insK_step hy,<- hlb];rfl);clear hy;go_wp2_with fail;go_quiet (fail)
   obtain ⟨wy,hq⟩ : ∃ X,X = wr.drewN nq:=⟨_,rfl⟩
   have HBy:=Lh (show Below wz.heap.size wz wy from by rw [hq];exact HB.out.trans ⟨rfl,rfl,rfl,Nat.le_refl _,fun k hk => rfl⟩);have HRy:=Lh (show RowX w.heap.size wy (.slice (some ⟨g,0,none⟩) N co) O from by rw [hq];exact HR.out);have HLy:=Lh (show Below w.heap.size w wy from HL.out.trans (HBy.out.mono hzw));rw [<- hq];clear hq nq;cases lb
   ·have HKE:=Lh (show insK s O O.length = i + 1 from by rw [HST.out];rfl);have HIN:=Lh (show O.take ((i + 1)) ++ s :: O.drop ((i + 1)) = ascV (xs.take (N + 1)) from by rw [ascV_take xs N s HXS.out,<- HO.out];unfold insS;rw [HKE.out]);have HKN:=Lh (show (i + 1) <= O.length from by rw [<- HNO.out];omega);have HRW:=Lh (show ∀ W,Below wy.heap.size wy W -> W.ownsRow w.heap.size 9 1 (.slice (some ⟨g,0,none⟩) N co) N (O.map Value.string) from fun W hW => by have h:=row_made (show wy.ownsRow w.heap.size 9 1 (.slice (some ⟨g,0,none⟩) N co) O.length (O.map Value.string) from HRy.out) hW;rwa [<- HNO.out] at h);have HPW:=Lh (show ∀ W,Below wy.heap.size wy W -> W.ownsRow w.heap.size 9 1 (.slice (some ⟨g,0,none⟩) (i + 1) co) (i + 1) ((O.take (i + 1)).map Value.string) from fun W hW => by rw [List.map_take];exact ownsRow_take (HRW.out W hW) (by omega));obtain ⟨ad,had⟩ : ∃ ad : Addr,ad = (if co = i + 1 then ⟨g,0,none⟩ else ⟨g,i + 1,none⟩):=⟨_,rfl⟩
    have HAD:=Lh (show ∀ W,Below wy.heap.size wy W -> ∀ (j : Nat) (u : Value),((O.drop (i + 1)).map Value.string)[j]? = some u -> W.cell? (ad.add j) = some u from fun W hW j u hj => by rw [had];exact own_drop (HRW.out W hW) (by rw [List.length_map];exact HNO.out) (by rw [<- List.map_drop];exact hj));have HV2:=Lh had;clear had;have hco : (i : Int) + 1 <= (co : Int):=by have:=own_cap (HRW.out wy (Below.refl _ _));omega
    have hi1 : (0 : Int) <= (i : Int) + 1:=by omega
    have hi2 : ((i : Int) + 1).toNat = i + 1:=by omega
    have hi3 : (i : Int) + 1 <= (N : Int):=by omega
    go_upto_region 8 with (fail);refine wp_region_tail 12 (by kernel_rfl) (fun listed a x => ∃ (l0 l1 l2 l3 l4 l5 l6 l7 l8 l9 l10 l11 : Bool) (t30 t31 t32 t33 t34 t35 t36 t37 t38 t39 t40 t41 : Value),listed = #[l0,l1,l2,l3,l4,l5,l6,l7,l8,l9,l10,l11,false,false] /\ a = ⟨(.slice (some ⟨gx,0,none⟩) n c :: undef :: .slice none 0 0 :: .slice (some ⟨g,0,none⟩) N co :: .int .i64 N :: .int .i64 ((i : Int) + 1) :: .int .i64 N :: .slice (some ⟨gx,0,none⟩) n c :: .int .i64 n :: .bool true :: u10 :: u11 :: .slice (some ⟨g,0,none⟩) N co :: .int .i64 N :: .int .i64 ((i : Int) + 1) :: .bool true :: .bool true :: .slice (some ⟨gx,0,none⟩) n c :: .int .i64 N :: .pointer (some ⟨gx,N,none⟩) :: .string s :: .slice (some ⟨g,0,none⟩) N co :: .int .i64 ((i : Int) + 1) :: .int .i64 i :: .pointer (some ⟨g,i,none⟩) :: .string y :: .bool false :: .bool false :: u28 :: u29 :: t30 :: t31 :: t32 :: t33 :: t34 :: t35 :: t36 :: t37 :: t38 :: t39 :: t40 :: t41 :: u42 :: undef :: []).toArray,[]⟩ /\ Hid (l0 = true -> t30 = .slice (some ⟨g,0,none⟩) N co) /\ Hid (l1 = true -> t31 = .int .i64 ((i : Int) + 1)) /\ Hid (l2 = true -> t32 = .slice (some ⟨g,0,none⟩) (i + 1) co) /\ Hid (l3 = true -> t33 = .slice (some ⟨gx,0,none⟩) n c) /\ Hid (l4 = true -> t34 = .int .i64 N) /\ Hid (l5 = true -> t35 = .pointer (some ⟨gx,N,none⟩)) /\ Hid (l6 = true -> t36 = .string s) /\ Hid (l7 = true -> l11 = false -> ∃ (h : Nat),t37 = .slice (some ⟨h,0,none⟩) 1 1 /\ wy.heap.size <= h /\ Blk h #[.string s] 9 x) /\ Hid (l8 = true -> t38 = .slice (some ⟨g,0,none⟩) N co) /\ Hid (l9 = true -> t39 = .int .i64 ((i : Int) + 1)) /\ Hid (l10 = true -> t40 = .slice (some ad) (N - (i + 1)) (co - (i + 1))) /\ Hid (l11 = true -> ∃ (v : Value),t41 = v /\ RowX wy.heap.size x v (s :: O.drop (i + 1)) /\ l7 = true) /\ Hid (Made wy x)) (by decide) (by kernel_rfl) (by kernel_rfl) ?_ ?_ ?_ ?_
    ·exact ⟨false,false,false,false,false,false,false,false,false,false,false,false,_,_,_,_,_,_,_,_,_,_,_,_,rfl,rfl,Lh (fun h => by cases h),Lh (fun h => by cases h),Lh (fun h => by cases h),Lh (fun h => by cases h),Lh (fun h => by cases h),Lh (fun h => by cases h),Lh (fun h => by cases h),Lh (fun h => by cases h),Lh (fun h => by cases h),Lh (fun h => by cases h),Lh (fun h => by cases h),Lh (fun h => by cases h),Lh (Made.start wy)⟩
    ·intro listed a x hj;obtain ⟨l0,l1,l2,l3,l4,l5,hj⟩:=hj;obtain ⟨l6,l7,l8,l9,l10,l11,hj⟩:=hj;obtain ⟨t30,t31,t32,t33,t34,t35,hj⟩:=hj;obtain ⟨t36,t37,t38,t39,t40,t41,hj⟩:=hj;obtain ⟨h1, -⟩:=hj;subst h1;exact ⟨rfl,fun k h1 h2 => by (have h2 : k < 14:=h2);rcases (show k = 12 ∨ k = 13 by omega) with rfl | rfl <;> rfl⟩
    ·intro listed a x i hj hlt hu haf;obtain ⟨l0,l1,l2,l3,l4,l5,hj⟩:=hj;obtain ⟨l6,l7,l8,l9,l10,l11,hj⟩:=hj;obtain ⟨t30,t31,t32,t33,t34,t35,hj⟩:=hj;obtain ⟨t36,t37,t38,t39,t40,t41,hj⟩:=hj;obtain ⟨hl_,ha_,H0,H1,H2,H3,hj⟩:=hj;obtain ⟨H4,H5,H6,H7,H8,H9,hj⟩:=hj;obtain ⟨H10,H11,hj⟩:=hj;have HS:=hj;clear hj;subst hl_;subst ha_;rcases (show ∀ i : Nat,i < 12 -> (i = 0 ∨ i = 1 ∨ i = 2 ∨ i = 3 ∨ i = 4 ∨ i = 5 ∨ i = 6 ∨ i = 7 ∨ i = 8 ∨ i = 9 ∨ i = 10 ∨ i = 11) by decide) i hlt with rfl | rfl | rfl | rfl | rfl | rfl | rfl | rfl | rfl | rfl | rfl | rfl
     ·have haf:=haf _ rfl;clear haf;have hu : l0 = false:=hu;refine wpOp_of_list_any rfl fun QQ hQ => ?_
      have hQQ:=Lh hQ;clear hQ;simp only [List.getElem_toArray,List.getElem_cons_zero];go_wp2_with fail;exact hQQ.out _ _ ⟨true,l1,l2,l3,l4,l5,l6,l7,l8,l9,l10,l11,_,_,_,_,_,_,_,_,_,_,_,_,rfl,rfl,Lh (fun _ => rfl),H1,H2,H3,H4,H5,H6,H7,H8,H9,H10,H11,HS⟩
     ·have haf:=haf _ rfl;clear haf;have hu : l1 = false:=hu;refine wpOp_of_list_any rfl fun QQ hQ => ?_
      have hQQ:=Lh hQ;clear hQ;simp only [List.getElem_toArray,List.getElem_cons_zero,List.getElem_cons_succ];go_wp2_with fail;exact hQQ.out _ _ ⟨l0,true,l2,l3,l4,l5,l6,l7,l8,l9,l10,l11,_,_,_,_,_,_,_,_,_,_,_,_,rfl,rfl,H0,Lh (fun _ => rfl),H2,H3,H4,H5,H6,H7,H8,H9,H10,H11,HS⟩
     ·have haf:=haf _ rfl;have q0 : l0 = true:=haf ⟨0,Go.Ground.data⟩ (by simp) rfl;have q1 : l1 = true:=haf ⟨1,Go.Ground.data⟩ (by simp) rfl;clear haf;have hu : l2 = false:=hu;have e0:=(H0.out q0)
      subst e0;clear H0;have e1:=(H1.out q1)
      subst e1;clear H1;refine wpOp_of_list_any rfl fun QQ hQ => ?_
      have hQQ:=Lh hQ;clear hQ;simp only [List.getElem_toArray,List.getElem_cons_zero,List.getElem_cons_succ];go_wp2_with fail;exact hQQ.out _ _ ⟨l0,l1,true,l3,l4,l5,l6,l7,l8,l9,l10,l11,_,_,_,_,_,_,_,_,_,_,_,_,rfl,rfl,Lh (fun _ => rfl),Lh (fun _ => rfl),Lh (fun _ => rfl),H3,H4,H5,H6,H7,H8,H9,H10,H11,HS⟩
     ·have haf:=haf _ rfl;clear haf;have hu : l3 = false:=hu;refine wpOp_of_list_any rfl fun QQ hQ => ?_
      have hQQ:=Lh hQ;clear hQ;simp only [List.getElem_toArray,List.getElem_cons_zero,List.getElem_cons_succ];go_wp2_with fail;exact hQQ.out _ _ ⟨l0,l1,l2,true,l4,l5,l6,l7,l8,l9,l10,l11,_,_,_,_,_,_,_,_,_,_,_,_,rfl,rfl,H0,H1,H2,Lh (fun _ => rfl),H4,H5,H6,H7,H8,H9,H10,H11,HS⟩
     ·have haf:=haf _ rfl;clear haf;have hu : l4 = false:=hu;refine wpOp_of_list_any rfl fun QQ hQ => ?_
      have hQQ:=Lh hQ;clear hQ;simp only [List.getElem_toArray,List.getElem_cons_zero,List.getElem_cons_succ];go_wp2_with fail;exact hQQ.out _ _ ⟨l0,l1,l2,l3,true,l5,l6,l7,l8,l9,l10,l11,_,_,_,_,_,_,_,_,_,_,_,_,rfl,rfl,H0,H1,H2,H3,Lh (fun _ => rfl),H5,H6,H7,H8,H9,H10,H11,HS⟩
     ·have haf:=haf _ rfl;have q3 : l3 = true:=haf ⟨3,Go.Ground.data⟩ (by simp) rfl;have q4 : l4 = true:=haf ⟨4,Go.Ground.data⟩ (by simp) rfl;clear haf;have hu : l5 = false:=hu;have e3:=(H3.out q3)
      subst e3;clear H3;have e4:=(H4.out q4)
      subst e4;clear H4;refine wpOp_of_list_any rfl fun QQ hQ => ?_
      have hQQ:=Lh hQ;clear hQ;simp only [List.getElem_toArray,List.getElem_cons_zero,List.getElem_cons_succ];go_wp2_with fail;exact hQQ.out _ _ ⟨l0,l1,l2,l3,l4,true,l6,l7,l8,l9,l10,l11,_,_,_,_,_,_,_,_,_,_,_,_,rfl,rfl,H0,H1,H2,Lh (fun _ => rfl),Lh (fun _ => rfl),Lh (fun _ => rfl),H6,H7,H8,H9,H10,H11,HS⟩
     ·have haf:=haf _ rfl;have q5 : l5 = true:=haf ⟨5,Go.Ground.data⟩ (by simp) rfl;clear haf;have hu : l6 = false:=hu;have e5:=(H5.out q5)
      subst e5;clear H5;have hc:=HC.out x (HLy.out.trans (HS.out.below.mono HLy.out.size));refine wpOp_of_list_any rfl fun QQ hQ => ?_
      have hQQ:=Lh hQ;clear hQ;simp only [List.getElem_toArray,List.getElem_cons_zero,List.getElem_cons_succ];go_wp2_with fail;exact hQQ.out _ _ ⟨l0,l1,l2,l3,l4,l5,true,l7,l8,l9,l10,l11,_,_,_,_,_,_,_,_,_,_,_,_,rfl,rfl,H0,H1,H2,H3,H4,Lh (fun _ => rfl),Lh (fun _ => rfl),H7,H8,H9,H10,H11,HS⟩
     ·have haf:=haf _ rfl;have q6 : l6 = true:=haf ⟨6,Go.Ground.data⟩ (by simp) rfl;clear haf;have hu : l7 = false:=hu;have e6:=(H6.out q6)
      subst e6;clear H6;refine wpOp_of_list_any rfl fun QQ hQ => ?_
      have hQQ:=Lh hQ;clear hQ;simp only [List.getElem_toArray,List.getElem_cons_zero,List.getElem_cons_succ];go_wp2_with fail;exact hQQ.out _ _ ⟨l0,l1,l2,l3,l4,l5,l6,true,l8,l9,l10,l11,_,_,_,_,_,_,_,_,_,_,_,_,rfl,rfl,H0,H1,H2,H3,H4,H5,Lh (fun _ => rfl),Lh (fun _ _ => ⟨_,rfl,HS.out.below.size,Blk.new x _ _⟩),H8,H9,H10,Lh (fun h => absurd (hu.symm.trans (by obtain ⟨v,e,c0,c1⟩:=H11.out h;exact c1)) (by decide)),Lh (HS.out.alloc _)⟩
     ·have haf:=haf _ rfl;clear haf;have hu : l8 = false:=hu;refine wpOp_of_list_any rfl fun QQ hQ => ?_
      have hQQ:=Lh hQ;clear hQ;simp only [List.getElem_toArray,List.getElem_cons_zero,List.getElem_cons_succ];go_wp2_with fail;exact hQQ.out _ _ ⟨l0,l1,l2,l3,l4,l5,l6,l7,true,l9,l10,l11,_,_,_,_,_,_,_,_,_,_,_,_,rfl,rfl,H0,H1,H2,H3,H4,H5,H6,H7,Lh (fun _ => rfl),H9,H10,H11,HS⟩
     ·have haf:=haf _ rfl;clear haf;have hu : l9 = false:=hu;refine wpOp_of_list_any rfl fun QQ hQ => ?_
      have hQQ:=Lh hQ;clear hQ;simp only [List.getElem_toArray,List.getElem_cons_zero,List.getElem_cons_succ];go_wp2_with fail;exact hQQ.out _ _ ⟨l0,l1,l2,l3,l4,l5,l6,l7,l8,true,l10,l11,_,_,_,_,_,_,_,_,_,_,_,_,rfl,rfl,H0,H1,H2,H3,H4,H5,H6,H7,H8,Lh (fun _ => rfl),H10,H11,HS⟩
     ·have haf:=haf _ rfl;have q8 : l8 = true:=haf ⟨8,Go.Ground.data⟩ (by simp) rfl;have q9 : l9 = true:=haf ⟨9,Go.Ground.data⟩ (by simp) rfl;clear haf;have hu : l10 = false:=hu;have e8:=(H8.out q8)
      subst e8;clear H8;have e9:=(H9.out q9)
      subst e9;clear H9;have hv2 : (if co = i + 1 then some (⟨g,0,none⟩ : Addr) else some ⟨g,i + 1,none⟩) = some ad:=by rw [HV2.out];split <;> rfl
      have hv3 : (if co = i + 1 then (⟨g,0,none⟩ : Addr) else ⟨g,i + 1,none⟩) = ad:=HV2.out.symm;refine wpOp_of_list_any rfl fun QQ hQ => ?_
      have hQQ:=Lh hQ;clear hQ;simp only [List.getElem_toArray,List.getElem_cons_zero,List.getElem_cons_succ];go_wp2_with fail;exact hQQ.out _ _ ⟨l0,l1,l2,l3,l4,l5,l6,l7,l8,l9,true,l11,_,_,_,_,_,_,_,_,_,_,_,_,rfl,rfl,H0,H1,H2,H3,H4,H5,H6,H7,Lh (fun _ => rfl),Lh (fun _ => rfl),Lh (fun _ => rfl),H11,HS⟩
     ·have haf:=haf _ rfl;have q7 : l7 = true:=haf ⟨7,Go.Ground.data⟩ (by simp) rfl;have q10 : l10 = true:=haf ⟨10,Go.Ground.data⟩ (by simp) rfl;clear haf;have hu : l11 = false:=hu;obtain ⟨h7,e7,c7_0,c7_1⟩:=(H7.out q7 hu)
      subst e7;clear H7;have e10:=(H10.out q10)
      subst e10;clear H10;refine wpOp_of_list_any rfl fun QQ hQ => ?_
      have hQQ:=Lh hQ;clear hQ;simp only [List.getElem_toArray,List.getElem_cons_zero,List.getElem_cons_succ];go_wp2_with (at_builtin;refine wpList_append_own_at _ rfl (.tmp 37) (.tmp 40) 60 rfl wy.heap.size 9 i9 (.string ⟨#[]⟩) 1 16 Tryz.underlying60 hi9 hz0 hz1 hz2 rfl (by decide) _ 1 _ rfl (own_one c7_1 c7_0) ad (N - (i + 1)) (co - (i + 1)) ((O.drop (i + 1)).map Value.string) rfl (by rw [List.length_map,List.length_drop,Nat.mul_one];have:=HNO.out;omega) (HAD.out x HS.out.below) (strs_one _) (by unfold maxLen;have:=HNO.out;omega) (by have:=HNO.out;omega) HS.out.below.size ?_);intro v11 x1 hown hgrow _ hat;have HS1:=Lh (show Made wy x1 from ⟨below_grownBy HS.out.below (own_one c7_1 c7_0) (Nat.le_refl _) HS.out.below.size hgrow⟩);have HX1:=Lh (show RowX wy.heap.size x1 v11 (s :: O.drop (i + 1)) from by unfold RowX;rw [show (s :: O.drop (i + 1)).length = 1 + (N - (i + 1)) from by rw [List.length_cons];rw [List.length_drop];have:=HNO.out;omega];rw [List.map_cons,List.map_drop];exact hown);clear hown hgrow hat;go_wp2_with fail;exact hQQ.out _ _ ⟨l0,l1,l2,l3,l4,l5,l6,l7,l8,l9,l10,true,_,_,_,_,_,_,_,_,_,_,_,_,rfl,rfl,H0,H1,H2,H3,H4,H5,H6,Lh (fun _ h => by cases h),H8,H9,Lh (fun _ => rfl),Lh (fun _ => ⟨_,rfl,HX1.out,q7⟩),HS1⟩
    ·intro listed a x hj hall;obtain ⟨l0,l1,l2,l3,l4,l5,hj⟩:=hj;obtain ⟨l6,l7,l8,l9,l10,l11,hj⟩:=hj;obtain ⟨t30,t31,t32,t33,t34,t35,hj⟩:=hj;obtain ⟨t36,t37,t38,t39,t40,t41,hj⟩:=hj;obtain ⟨hl_,ha_,H0,H1,H2,H3,hj⟩:=hj;obtain ⟨H4,H5,H6,H7,H8,H9,hj⟩:=hj;obtain ⟨H10,H11,hj⟩:=hj;have HS:=hj;clear hj;subst hl_;subst ha_;have q2 : l2 = true:=hall 2 (by omega);have q11 : l11 = true:=hall 11 (by omega);clear hall;have e2:=(H2.out q2)
     subst e2;obtain ⟨v11,e11,c11_0,c11_1⟩:=(H11.out q11)
     subst e11;obtain ⟨pa,ca,hpa⟩:=RowX.slice c11_0;subst hpa;refine tail_any (fun a x => ∃ (t3 t30 t31 t32 t33 t34 t35 t36 t37 t38 t39 t40 t41 t42 : Value),a = ⟨(.slice (some ⟨gx,0,none⟩) n c :: undef :: .slice none 0 0 :: t3 :: .int .i64 N :: .int .i64 ((i : Int) + 1) :: .int .i64 N :: .slice (some ⟨gx,0,none⟩) n c :: .int .i64 n :: .bool true :: u10 :: u11 :: .slice (some ⟨g,0,none⟩) N co :: .int .i64 N :: .int .i64 ((i : Int) + 1) :: .bool true :: .bool true :: .slice (some ⟨gx,0,none⟩) n c :: .int .i64 N :: .pointer (some ⟨gx,N,none⟩) :: .string s :: .slice (some ⟨g,0,none⟩) N co :: .int .i64 ((i : Int) + 1) :: .int .i64 i :: .pointer (some ⟨g,i,none⟩) :: .string y :: .bool false :: .bool false :: u28 :: u29 :: t30 :: t31 :: t32 :: t33 :: t34 :: t35 :: t36 :: t37 :: t38 :: t39 :: t40 :: t41 :: t42 :: undef :: []).toArray,[]⟩ /\ RowX w.heap.size x t3 (ascV (xs.take (N + 1))) /\ Below w.heap.size w x) ?_ fun QQ hQ => ?_
     ·intro a x hpost;obtain ⟨t3,t30,t31,t32,t33,t34,hpost⟩:=hpost;obtain ⟨t35,t36,t37,t38,t39,t40,hpost⟩:=hpost;obtain ⟨t41,t42,ha_,hpost⟩:=hpost;subst ha_;obtain ⟨hx9,hl9⟩:=hpost;have HX9:=Lh hx9;have HL9:=Lh hl9;clear hx9 hl9;go_wp2_with fail;go_roundw
      case rel => exact ⟨N + 1,_,by omega,by go_num,Lh rfl,HX9,HL9⟩
      case measure => simp [intOf];omega
     have hQQ:=Lh hQ;clear hQ;simp only [List.drop_succ_cons,List.drop_zero];go_wp2_with (at_builtin;refine wpList_append_row rfl (.tmp 32) (.tmp 41) 60 rfl w.heap.size 9 i9 (.string ⟨#[]⟩) 1 16 Tryz.underlying60 hi9 hz0 hz1 hz2 rfl (by decide) _ (i + 1) _ rfl (HPW.out x HS.out.below) wy.heap.size _ _ _ rfl c11_0 (strs_one _) (by unfold maxLen;rw [List.length_cons];rw [List.length_drop];have:=HNO.out;omega) (by rw [List.length_cons];rw [List.length_drop];have:=HNO.out;omega) (Nat.le_trans HLy.out.size HS.out.below.size) ?_);intro v12 x2 hown hgrow hat;have HL2:=Lh (below_grownBy (HLy.out.trans (HS.out.below.mono HLy.out.size)) (HPW.out x HS.out.below) (Nat.le_refl _) (Nat.le_trans HLy.out.size HS.out.below.size) hgrow);have HX2:=Lh (show RowX w.heap.size x2 v12 (ascV (xs.take (N + 1))) from by
     rw [<- HIN.out];unfold RowX;rw [List.length_append,List.map_append,List.length_take,Nat.min_eq_left HKN.out];simpa using hown)
     clear hown hgrow hat;go_wp2_with fail;exact hQQ.out _ _ ⟨_,_,_,_,_,_,_,_,_,_,_,_,_,_,rfl,HX2.out,HL2.out⟩
   ·have HK2:=Lh (show insK s O O.length = insK s O i from by rw [HST.out];rfl);go_wp2_with fail;go_roundw
    case rel => exact ⟨i,rfl,by omega,HK2,HBy,HRy⟩
    case measure => simp [intOf]
open Go.RowKit Go.Sort
theorem less129 (ea eb : Ev) (p p2 q q2 : Option Addr) (n n2 m m2 c c2 d d2 : Nat) (w : World) :
  Calls Tryz.prog 129 #[.agg #[.string ea.uid,.int .i64 ea.seq,.bool ea.canc,.int .i64 ea.days.first,.int .i64 ea.days.last,.int .i64 ea.days.every,.int .i64 ea.days.wd,.slice p n c,.slice p2 n2 c2,.int .i64 ea.start,.int .i64 ea.mins,.string ea.summ,.string ea.loc],.agg #[.string eb.uid,.int .i64 eb.seq,.bool eb.canc,.int .i64 eb.days.first,.int .i64 eb.days.last,.int .i64 eb.days.every,.int .i64 eb.days.wd,.slice q m d,.slice q2 m2 d2,.int .i64 eb.start,.int .i64 eb.mins,.string eb.summ,.string eb.loc]] w fun e w' => e = .returned (.int .i64 (Lib.compareBytes ea.uid.data.toList eb.uid.data.toList)) /\ ∃ q os',w' = grow (w.drewN q) os':=by
 obtain ⟨X,hX⟩ : ∃ x,x = w.heap.size:=⟨_,rfl⟩
 obtain ⟨Y,hY⟩ : ∃ x,x = w.heap.size + 1:=⟨_,rfl⟩
 obtain ⟨w0,hw0⟩ : ∃ x,x = (w.alloc (.cells #[.string ea.uid,.int .i64 ea.seq,.bool ea.canc,.int .i64 ea.days.first,.int .i64 ea.days.last,.int .i64 ea.days.every,.int .i64 ea.days.wd,.slice p n c,.slice p2 n2 c2,.int .i64 ea.start,.int .i64 ea.mins,.string ea.summ,.string ea.loc] 82)).alloc (.cells #[.string eb.uid,.int .i64 eb.seq,.bool eb.canc,.int .i64 eb.days.first,.int .i64 eb.days.last,.int .i64 eb.days.every,.int .i64 eb.days.wd,.slice q m d,.slice q2 m2 d2,.int .i64 eb.start,.int .i64 eb.mins,.string eb.summ,.string eb.loc] 82):=⟨_,rfl⟩
 have HX0:=Lh (show Blk X #[.string ea.uid,.int .i64 ea.seq,.bool ea.canc,.int .i64 ea.days.first,.int .i64 ea.days.last,.int .i64 ea.days.every,.int .i64 ea.days.wd,.slice p n c,.slice p2 n2 c2,.int .i64 ea.start,.int .i64 ea.mins,.string ea.summ,.string ea.loc] 82 w0 from by rw [hw0,hX];exact (Blk.new w _ _).alloc _);have HY0:=Lh (show Blk Y #[.string eb.uid,.int .i64 eb.seq,.bool eb.canc,.int .i64 eb.days.first,.int .i64 eb.days.last,.int .i64 eb.days.every,.int .i64 eb.days.wd,.slice q m d,.slice q2 m2 d2,.int .i64 eb.start,.int .i64 eb.mins,.string eb.summ,.string eb.loc] 82 w0 from by rw [hw0,hY];exact Blk.new' _ _ _ (by simp));have HG:=Lh (show ∃ os',w0 = grow w os' from ⟨_,by rw [hw0,alloc_eq_grow,alloc_eq_grow,grow_grow]⟩);have HC:=Lh (fun W => Tryz.strings_Compare ea.uid eb.uid W);obtain ⟨r,hr⟩ : ∃ r,r = Lib.compareBytes ea.uid.data.toList eb.uid.data.toList:=⟨_,rfl⟩
 rw [<- hr] at HC ⊢;clear hr;go_enter Tryz.func129,Tryz.ntmps129;go_upto_region 1 with (fail);rw [<- hw0,<- hY,<- hX];clear hw0 hX hY;have x1 : w0.cell? ⟨X,0,none⟩ = some (.string ea.uid):=HX0.out.cell 0;have y1 : w0.cell? ⟨Y,0,none⟩ = some (.string eb.uid):=HY0.out.cell 0;have hxl:=HX0.out.lt;have hyl:=HY0.out.lt;go_wp2_with (go_at_call 130;(with_reducible refine (HC.out _).mono ?_);rintro e w5 ⟨rfl,rfl⟩);go_ret;obtain ⟨os',h⟩:=HG.out;exact ⟨rfl,0,os',h⟩
end Go.Proofs.YtageielcdebjlaaGreatDoor
