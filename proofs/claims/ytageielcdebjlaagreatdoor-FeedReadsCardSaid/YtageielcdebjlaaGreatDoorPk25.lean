/- slices.DeleteFunc on lines: those that begin with X- are taken out, the others stay in their order. The lines of a text are not longer than the text. No program in sight. feed.Parse (function 50) on the text of a valid feed. -/
import Derived.Test.YtageielcdebjlaaGreatDoorParseAll
import Derived.Test.YtageielcdebjlaaGreatDoorPk10
import Derived.Lib.SliceRun
import Derived.Test.YtageielcdebjlaaGreatDoorPk3
import Derived.Test.YtageielcdebjlaaGreatDoorEvP
import Derived.Test.YtageielcdebjlaaGreatDoorPk14
import Derived.Test.YtageielcdebjlaaGreatDoorPk15
set_option maxRecDepth 100000
set_option maxHeartbeats 40000000
namespace Go.Proofs.YtageielcdebjlaaGreatDoor
open Go.RowKit
def isX (x : ByteArray) : Bool := Lib.hasPrefix x.data.toList [88, 45]
def keepX (xs : List ByteArray) : List ByteArray := xs.filter fun x => !isX x
def IndexR (xs : List ByteArray) (w : World) (e : Ending) (w' : World) : Prop := ((e = .returned (.int .i64 (-1)) /\ ∀ x ∈ xs, isX x = false) ∨ ∃ k : Nat, e = .returned (.int .i64 k) /\ k < xs.length /\ (∀ j x, j < k -> xs[j]? = some x -> isX x = false) /\ ∃ x, xs[k]? = some x /\ isX x = true) /\ ∃ q, w' = w.drewN q
theorem index174 (ao : Option Addr) (c : Nat) (xs : List ByteArray) (w : World) (hn : xs.length <= 9223372036854775806) (h1 : StrAt w ao xs) :
  Calls Tryz.prog 174 #[.slice ao xs.length c, .func (.func 103) #[] #[]] w (IndexR xs w) := by
 have H1 := Lh h1; clear h1; go_enter Tryz.func174, Tryz.ntmps174; go_wp2_with fail; go_loopw [8] (fun i wr => ∃ k q : Nat, k <= xs.length /\ i = .int .i64 k /\ wr = w.drewN q /\ Hid (∀ j x, j < k -> xs[j]? = some x -> isX x = false)) (fun i _ => xs.length - (intOf i).toNat)
 case atStart => exact ⟨0, 0, Nat.zero_le _, rfl, rfl, Lh (fun j x h => absurd h (Nat.not_lt_zero _))⟩
 case round =>
  obtain ⟨k, q, hk, rfl, rfl, HX⟩ := hrel; by_cases hlt : k < xs.length
  ·obtain ⟨x, hx⟩ : ∃ x, xs[k]? = some x := ⟨_, List.getElem?_eq_getElem hlt⟩
   obtain ⟨a, rfl, ha⟩ := H1.out k x hx; have hki : (k : Int) < (xs.length : Int) := by omega
   have HXK := Lh hx; obtain ⟨bl, hbl⟩ : ∃ bl, bl = isX x := ⟨_, rfl⟩
   have HBL := Lh hbl; clear hx hbl; go_wp2_with fail; refine (minus_any _ _).mono ?_; rintro e w2 ⟨rfl, hw⟩; rw [hw, show Lib.hasPrefix x.data.toList [88, 45] = bl from HBL.out.symm]; clear hw w2; cases bl
   ·go_wp2_with fail; go_roundw
    case rel =>
     refine ⟨k + 1, _, by omega, by go_num, rfl, Lh ?_⟩; intro j y hj hy; rcases Nat.lt_or_ge j k with h | h
     ·exact HX.out j y h hy
     ·obtain rfl : j = k := by omega
      rw [HXK.out] at hy; cases hy; exact HBL.out.symm
    case measure => simp [intOf]; omega
   ·go_wp2_with fail; go_ret; refine ⟨.inr ⟨k, ?_, hlt, HX.out, x, HXK.out, HBL.out.symm⟩, _, rfl⟩; rfl
  ·have hkl : k = xs.length := by omega
   go_wp2_with fail; go_ret; refine ⟨.inl ⟨rfl, fun x hx => ?_⟩, _, rfl⟩; obtain ⟨j, hj⟩ := List.mem_iff_getElem?.1 hx; exact HX.out j x (by rw [hkl]; exact (List.getElem?_eq_some_iff.1 hj).1) hj
theorem keepX_all {xs : List ByteArray} (h : ∀ x ∈ xs, isX x = false) : keepX xs = xs := by
 unfold keepX; rw [List.filter_eq_self]; intro x hx; rw [h x hx]; rfl
theorem keepX_take {xs : List ByteArray} {k : Nat} {x : ByteArray} (hx : xs[k]? = some x) : keepX (xs.take (k + 1)) = if isX x = true then keepX (xs.take k) else keepX (xs.take k) ++ [x] := by
 obtain ⟨h1, h2⟩ := List.getElem?_eq_some_iff.1 hx; unfold keepX; rw [List.take_succ_eq_append_getElem h1, List.filter_append, h2]; split
 ·rename_i h; simp [h]
 ·rename_i h; simp [h]
theorem keepX_len (xs : List ByteArray) (k : Nat) : (keepX (xs.take k)).length <= k := Nat.le_trans (List.length_filter_le _ _) (by rw [List.length_take]; exact Nat.min_le_left _ _)
structure Swept (g : Nat) (xs : List ByteArray) (k : Nat) (w w' : World) : Prop where
 head : ∀ (j : Nat) (x : ByteArray), (keepX (xs.take k))[j]? = some x -> w'.cell? ⟨g, j, none⟩ = some (.string x)
 rest : ∀ (j : Nat) (x : ByteArray), k <= j -> xs[j]? = some x -> w'.cell? ⟨g, j, none⟩ = some (.string x)
 only : Only g w w'
 froz : ∀ j, w'.frozen? ⟨g, j, none⟩ = false
 some_ : ∀ j, j < xs.length -> (w'.cell? ⟨g, j, none⟩).isSome = true
theorem drewN_only (g : Nat) (w : World) (q : Nat) : Only g w (w.drewN q) := ⟨rfl, rfl, rfl, rfl, fun _ _ => rfl⟩
theorem Swept.draw {g k q : Nat} {xs : List ByteArray} {w w' : World} (h : Swept g xs k w w') : Swept g xs k w (w'.drewN q) := ⟨h.head, h.rest, h.only.trans (drewN_only g w' q), h.froz, h.some_⟩
theorem Swept.drop {g k : Nat} {xs : List ByteArray} {w w' : World} {x : ByteArray} (h : Swept g xs k w w') (hx : xs[k]? = some x) (hX : isX x = true) : Swept g xs (k + 1) w w' :=
 ⟨fun j y hy => h.head j y (by rw [keepX_take hx, if_pos hX] at hy; exact hy), fun j y hj hy => h.rest j y (by omega) hy, h.only, h.froz, h.some_⟩
theorem Swept.keep {g k i : Nat} {xs : List ByteArray} {w w' : World} {x : ByteArray} (h : Swept g xs k w w') (hx : xs[k]? = some x) (hX : isX x = false) (hi : i = (keepX (xs.take k)).length) : Swept g xs (k + 1) w (w'.setCell ⟨g, i, none⟩ (.string x)) := by
 have hk := (List.getElem?_eq_some_iff.1 hx).1; have hik : i <= k := by rw [hi]; exact keepX_len xs k
 refine ⟨fun j y hy => ?_, fun j y hj hy => ?_, h.only.trans (only_set w' g i _), fun j => ?_, fun j hj => ?_⟩
 ·rw [keepX_take hx, if_neg (by rw [hX]; decide)] at hy; by_cases hji : j = i
  ·subst hji; rw [hi, List.getElem?_append_right (Nat.le_refl _), Nat.sub_self] at hy; cases hy; obtain ⟨u, hu⟩ := Option.isSome_iff_exists.1 (h.some_ j (by omega)); exact World.cell?_setCell_same _ _ _ hu
  ·rw [World.cell?_setCell_other (h := by intro e; exact hji (Addr.mk.inj e).2.1.symm)]; refine h.head j y ?_; rcases Nat.lt_or_ge j (keepX (xs.take k)).length with hl | hl
   ·rwa [List.getElem?_append_left hl] at hy
   ·rw [List.getElem?_append_right hl] at hy; have := (List.getElem?_eq_some_iff.1 hy).1; simp only [List.length_cons, List.length_nil] at this; omega
 ·rw [World.cell?_setCell_other (h := by intro e; have := (Addr.mk.inj e).2.1; omega)]; exact h.rest j y (by omega) hy
 ·have := h.froz j; simp only [World.frozen?, World.setCell, Array.getElem?_modify] at this ⊢; revert this; cases w'.heap[g]? with
  | none => simp
  | some o => cases o <;> simp
 ·by_cases hji : j = i
  ·subst hji; obtain ⟨u, hu⟩ := Option.isSome_iff_exists.1 (h.some_ j (by omega)); rw [World.cell?_setCell_same _ _ _ hu]; rfl
  ·rw [World.cell?_setCell_other (h := by intro e; exact hji (Addr.mk.inj e).2.1.symm)]; exact h.some_ j hj
theorem Swept.start {g k : Nat} {xs : List ByteArray} {w : World} {x : ByteArray} (h1 : StrAt w (some ⟨g, 0, none⟩) xs) (hf : ∀ j, w.frozen? ⟨g, j, none⟩ = false) (hb : ∀ j y, j < k -> xs[j]? = some y -> isX y = false) (hx : xs[k]? = some x) (hX : isX x = true) : Swept g xs (k + 1) w w /\ (keepX (xs.take (k + 1))).length = k := by
 have hk := (List.getElem?_eq_some_iff.1 hx).1; have hc : ∀ j y, xs[j]? = some y -> w.cell? ⟨g, j, none⟩ = some (.string y) := fun j y hy => by
  obtain ⟨a, ha, hc⟩ := h1 j y hy; cases ha; rwa [addr_add] at hc
 have ht : keepX (xs.take k) = xs.take k := keepX_all fun y hy => by
  obtain ⟨j, hj⟩ := List.mem_iff_getElem?.1 hy; have hjk : j < k := by
   have := (List.getElem?_eq_some_iff.1 hj).1; rw [List.length_take] at this; omega
  rw [List.getElem?_take, if_pos hjk] at hj; exact hb j y hjk hj
 refine ⟨⟨fun j y hy => ?_, fun j y _ hy => hc j y hy, Only.refl g w, hf, fun j hj => by rw [hc j _ (List.getElem?_eq_getElem hj)]; rfl⟩, ?_⟩
 ·rw [keepX_take hx, if_pos hX, ht, List.getElem?_take] at hy; split at hy
  ·exact hc j y hy
  ·cases hy
 ·rw [keepX_take hx, if_pos hX, ht, List.length_take]; omega
theorem Swept.clear {g i n : Nat} {xs : List ByteArray} {w w' : World} (h : Swept g xs xs.length w w') (hi : i = (keepX xs).length) (_hn : i + n = xs.length) : StrAt (w'.setCells g i (List.replicate n (.string ⟨#[]⟩))) (some ⟨g, 0, none⟩) (keepX xs) /\ Only g w (w'.setCells g i (List.replicate n (.string ⟨#[]⟩))) := by
 have ho : ∀ (us : List Value) (o : Nat) (W : World), Only g W (W.setCells g o us) := by
  intro us; induction us with
  | nil => intro o W; exact Only.refl g W
  | cons u r ih => intro o W; exact (only_set W g o u).trans (ih (o + 1) _)
 refine ⟨fun j x hx => ⟨_, rfl, ?_⟩, h.only.trans (ho _ _ _)⟩; rw [addr_add, World.cell?_setCells_out g _ _ _ _ (fun _ _ => .inl (by have := (List.getElem?_eq_some_iff.1 hx).1; show j < i; omega))]; exact h.head j x (by rw [List.take_length]; exact hx)
theorem delete102 (g c : Nat) (xs : List ByteArray) (w : World) (hn : xs.length <= 9223372036854775806) (hc : xs.length <= c) (h1 : StrAt w (some ⟨g, 0, none⟩) xs) (hf : ∀ j, w.frozen? ⟨g, j, none⟩ = false) :
  Calls Tryz.prog 102 #[.slice (some ⟨g, 0, none⟩) xs.length c, .func (.func 103) #[] #[]] w fun e w' => e = .returned (.slice (some ⟨g, 0, none⟩) (keepX xs).length c) /\ StrAt w' (some ⟨g, 0, none⟩) (keepX xs) /\ Only g w w' := by
 have HI := Lh (index174 (some ⟨g, 0, none⟩) c xs w hn h1); have H1 := Lh h1; have HF := Lh hf; obtain ⟨n, hnn⟩ : ∃ n, n = xs.length := ⟨_, rfl⟩
 have HN := Lh hnn; rw [<- hnn] at hn hc HI ⊢; clear h1 hf hnn; go_enter Tryz.func102, Tryz.ntmps102; go_wp2_with fail; refine HI.out.mono ?_; rintro e w2 ⟨hR, q, hw⟩; rw [hw]; clear hw w2 HI; rcases hR with ⟨rfl, hall⟩ | ⟨k, rfl, hk, hbef, x, hx, hX⟩
 ·have HK := Lh (keepX_all hall); clear hall; go_wp2_with fail; go_ret; rw [HK.out]; refine ⟨by rw [<- HN.out]; rfl, ?_, drewN_only g w q⟩; exact H1.out
 ·obtain ⟨hS, hl⟩ := Swept.start H1.out HF.out hbef hx hX; have HS0 := Lh (hS.draw (q := q)); have HL0 := Lh hl; have hkn : k < n := by rw [HN.out]; exact hk
  have hkm : ((k : Int) == -1) = false := beq_eq_false_iff_ne.2 (by omega); clear hS hl hbef hx hX hk H1 HF; go_wp2_with fail; go_loopw [5, 6, 7] (fun iv jv _ wr => ∃ i j : Nat, iv = .int .i64 i /\ jv = .int .i64 j /\ j <= n /\ i < j /\ Hid (i = (keepX (xs.take j)).length) /\ Hid (Swept g xs j w wr)) (fun _ jv _ _ => n - (intOf jv).toNat)
  case atStart => exact ⟨k, k + 1, rfl, by go_num, by omega, by omega, Lh HL0.out.symm, HS0⟩
  case round =>
   clear HS0 HL0; obtain ⟨i, j, rfl, rfl, hj, hij, HI, HS⟩ := hrel; by_cases hlt : j < n
   ·have hlti : (j : Int) < n := by omega
    have hjx : j < xs.length := by rw [<- HN.out]; exact hlt
    obtain ⟨y, hy⟩ : ∃ y, xs[j]? = some y := ⟨_, List.getElem?_eq_getElem hjx⟩
    have hcell := HS.out.rest j y (Nat.le_refl j) hy; have HY := Lh hy; obtain ⟨bl, hbl⟩ : ∃ bl, bl = isX y := ⟨_, rfl⟩
    have HBL := Lh hbl; clear hy hbl; go_wp2_with fail; refine (minus_any _ _).mono ?_; rintro e w2 ⟨rfl, hw⟩; rw [hw, show Lib.hasPrefix y.data.toList [88, 45] = bl from HBL.out.symm]; clear hw w2; cases bl
    ·have hin : (i : Int) < n := by omega
     have hfi := HS.out.froz i; obtain ⟨u, hu⟩ := Option.isSome_iff_exists.1 (HS.out.some_ i (by omega)); have HS2 := Lh (HS.out.keep HY.out HBL.out.symm HI.out); have HI2 := Lh (show i + 1 = (keepX (xs.take (j + 1))).length from by rw [keepX_take HY.out, if_neg (by rw [<- HBL.out]; decide), List.length_append, <- HI.out]; rfl); go_wp2_with fail; go_roundw
     case rel => exact ⟨i + 1, j + 1, by go_num, by go_num, by omega, by omega, HI2, HS2⟩
     case measure => simp [intOf]; omega
    ·have HS2 := Lh (HS.out.drop HY.out HBL.out.symm); have HI2 := Lh (show i = (keepX (xs.take (j + 1))).length from by rw [keepX_take HY.out, if_pos HBL.out.symm]; exact HI.out); go_wp2_with fail; go_roundw
     case rel => exact ⟨i, j + 1, rfl, by go_num, by omega, by omega, HI2, HS2⟩
     case measure => simp [intOf]; omega
   ·have hjn : j = n := by omega
    subst hjn; have hlti : ¬ (j : Int) < j := by omega
    have HS3 := Lh (show Swept g xs xs.length w wr from by rw [<- HN.out]; exact HS.out); have HI3 := Lh (show i = (keepX xs).length from by have h := HI.out; rwa [HN.out, List.take_length] at h); have hcl := fun ty cc => Lib.run_clear_slice (P := Tryz.prog) wr 60 9 ty (.string ⟨#[]⟩) Tryz.underlying60 Tryz.zeroValue9 rfl rfl g i (j - i) cc (by omega) (fun k hk => HS3.out.some_ (i + k) (by rw [<- HN.out]; omega)) (fun k _ => HS3.out.froz (i + k))
    obtain ⟨hA, hB⟩ := HS3.out.clear HI3.out (n := j - i) (by rw [<- HN.out]; omega); have HA := Lh hA; have HB := Lh hB; clear hA hB HI HS HS3; go_wp2_with fail; go_ret; refine ⟨?_, HA.out, HB.out⟩; rw [<- HI3.out]; rfl
end Go.Proofs.YtageielcdebjlaaGreatDoor
namespace Tt
theorem joinL_tot : ∀ (ls out r : List (List UInt8)), joinL out ls = some r -> r.flatten.length <= out.flatten.length + ls.flatten.length
 | [], out, r, h => by
  unfold joinL at h; simp only [Option.some.injEq] at h; subst h; simp
 | l :: t, out, r, h => by
  unfold joinL at h; split at h
  ·split at h
   ·cases h
   ·rename_i hne
    have ih := joinL_tot t _ r h; have hl : out.flatten.length = out.dropLast.flatten.length + (out.getLastD []).length := by
     have h1 := List.dropLast_concat_getLast hne; have h2 : out.getLastD [] = out.getLast hne := by cases out with
      | nil => exact absurd rfl hne
      | cons a s => rfl
     rw [h2]; have h3 := congrArg (fun q => (List.flatten q).length) h1; simp only [List.flatten_append, List.flatten_cons, List.flatten_nil, List.append_nil, List.length_append] at h3; omega
    simp only [List.flatten_append, List.flatten_cons, List.flatten_nil, List.append_nil, List.length_append, List.length_tail] at ih ⊢; omega
  ·have ih := joinL_tot t _ r h; simp only [List.flatten_append, List.flatten_cons, List.flatten_nil, List.append_nil, List.length_append] at ih ⊢; omega
theorem crlf_tot : ∀ ls : List (List UInt8), ls.flatten.length <= (ls.flatMap crlf).length
 | [] => Nat.le_refl _
 | l :: r => by
  have := crlf_tot r; have h1 : (crlf l).length = l.length + 2 := by unfold crlf; rw [List.length_append]; rfl
  rw [List.flatten_cons, List.flatMap_cons, List.length_append, List.length_append]; omega
theorem mem_tot : ∀ (ls : List (List UInt8)) (l : List UInt8), l ∈ ls -> l.length <= ls.flatten.length
 | [], l, h => by cases h
 | a :: r, l, h => by
  rw [List.flatten_cons, List.length_append]; rcases List.mem_cons.1 h with rfl | h
  ·omega
  ·have := mem_tot r l h; omega
theorem unf_bound {text : List UInt8} {ls : List (List UInt8)} (h : unf text = some ls) : ∀ l ∈ ls, l.length <= text.length := by
 intro l hl; unfold unf at h; split at h
 ·cases h
 ·obtain ⟨cs, hc, hj⟩ := Option.bind_eq_some_iff.1 h; obtain ⟨_, ht⟩ := (chop_iff text cs).1 hc; have h1 := joinL_tot cs [] ls hj; have h2 := crlf_tot cs; have h3 := mem_tot ls l hl; rw [<- ht] at h2; simp only [List.flatten_nil, List.length_nil, Nat.zero_add] at h1; omega
end Tt
namespace Go.Proofs.YtageielcdebjlaaGreatDoor
open Go.RowKit
structure EvS (p g : Nat) (z : ByteArray) (L1 L2 : List ByteArray) (l : Bool) (w x : World) : Prop where
 par : ∃ o cap, Par p g o cap (if l = true then L2 else L1) z false x
 but : But p w.heap.size w x
theorem EvS.start {p g : Nat} {z : ByteArray} {L1 L2 : List ByteArray} {w : World} (h : ∃ o cap, Par p g o cap L1 z false w) : EvS p g z L1 L2 false w w.drew := by
 obtain ⟨o, cap, hp⟩ := h; exact ⟨⟨o, cap, hp.other rfl rfl⟩, but_draw (But.refl p _ w)⟩
theorem EvS.alloc {p g : Nat} {z : ByteArray} {L1 L2 : List ByteArray} {l : Bool} {w x : World} (h : EvS p g z L1 L2 l w x) (o : Obj) (hg : g < w.heap.size) : EvS p g z L1 L2 l w (x.alloc o) := by
 obtain ⟨q, cap, hp⟩ := h.par; exact ⟨⟨q, cap, hp.below (below_box x _) (Nat.lt_of_lt_of_le hg h.but.size)⟩, but_alloc h.but h.but.size o⟩
theorem EvS.feed {p g : Nat} {z n : ByteArray} {v : Int} {ev : Value} {L1 L2 : List ByteArray} {l : Bool} {w x : World} (h : EvS p g z L1 L2 l w x) (hf : FeedB (p + 1) n v ev w) : FeedB (p + 1) n v ev x := hf.block (h.but.block (p + 1) hf.lt (by omega))
theorem EvS.ev {p g : Nat} {z : ByteArray} {L1 L2 : List ByteArray} {l : Bool} {w x : World} {ev : Ev} {ver m : Int} (h : EvS p g z L1 L2 l w x) (hu : l = false) (hL1 : L1 = (evLines ev z.data.toList).map str ++ L2) (hg : g < w.heap.size) (h3 : 3 < p) (hL : Lens w) (hm : w.cell? ⟨0, 0, none⟩ = some (.int .i64 m)) (hck : checkV ev ver = 0) (hver : ver <= 64) (hz : z.size <= 1000) (hp : p < w.heap.size) :
  Calls Tryz.prog 108 #[.pointer (some ⟨p, 0, none⟩)] x fun e x1 => ∃ v v', e = .returned (evVal ev v v') /\ RowI x.heap.size x1 v ev.days.ex /\ RowI x.heap.size x1 v' ev.days.xt /\ EvS p g z L1 L2 true w x1 /\ But p x.heap.size x x1 := by
 obtain ⟨o, cap, hpar⟩ := h.par; subst hu; have hb := h.but.below (Nat.le_refl p) (Nat.le_of_lt hp); have hpar : Par p g o cap ((evLines ev z.data.toList).map str ++ L2) z false x := by rw [<- hL1]; exact hpar
 refine (event108 p g o cap L2 ev ver m z x hpar (Nat.lt_of_lt_of_le hg h.but.size) h3 (hL.below h3 hb) ((hb.cell (p := ⟨0, 0, none⟩) (by show 0 < p; omega)).trans hm) hck hver hz).mono ?_; rintro e x1 ⟨v, v', rfl, hX, hY, hP, hK⟩; exact ⟨v, v', rfl, hX, hY, ⟨hP, but_then h.but hK h.but.size⟩, hK⟩
theorem RowT.butT {b lo : Nat} {w w' : World} {v : Value} {ts : List (Ev × Value × Value)} (h : RowT lo w v ts) (hb : b < lo) (ho : But b w.heap.size w w') : RowT lo w' v ts := ⟨row_but h.row hb ho, fun t ht => ⟨(h.ref t ht).1, row_but (h.ref t ht).2.1 hb ho, row_but (h.ref t ht).2.2 hb ho⟩⟩
theorem FeedB.grownT {f : Nat} {n : ByteArray} {v : Int} {ev u : Value} {w w' : World} {B k c : Nat} {e : TypeId} {xs : List Value} (h : FeedB f n v ev w) (hr : w.ownsRow B e k u c xs) (hf : f < B) (hg : w.grownBy w' u.ownBlock) : FeedB f n v ev w' :=
 h.block (hg.block f h.lt fun he => by have := (hr.lt f he.symm).1; omega)
theorem Par.grownT {b g o cap : Nat} {xs : List ByteArray} {z : ByteArray} {bad : Bool} {w w' : World} {B k c : Nat} {e : TypeId} {u : Value} {ys : List Value} (h : Par b g o cap xs z bad w) (hr : w.ownsRow B e k u c ys) (hb : b < B) (hgB : g < b) (hg : w.grownBy w' u.ownBlock) : Par b g o cap xs z bad w' :=
 h.other (hg.block b h.lt fun he => by have := (hr.lt b he.symm).1; omega) (hg.block g (by have := h.lt; omega) fun he => by have := (hr.lt g he.symm).1; omega)
def tailL (es : List Ev) (z : List UInt8) : List ByteArray := (es.flatMap fun e => evLines e z).map str ++ [str [69, 78, 68, 58, 86, 67, 65, 76, 69, 78, 68, 65, 82]]
theorem tail_cons (e : Ev) (r : List Ev) (z : List UInt8) : tailL (e :: r) z = (evLines e z).map str ++ tailL r z := by unfold tailL; rw [List.flatMap_cons, List.map_append, List.append_assoc]
theorem tail_head (e : Ev) (r : List Ev) (z : List UInt8) : ∃ q, tailL (e :: r) z = str (kEvent ++ []) :: q := ⟨_, by rw [tail_cons]; rfl⟩
theorem feedL_split (n : List UInt8) (v : Int) (es : List Ev) (z : List UInt8) : (feedL n v es z).map str = str (kBegin ++ []) :: str (kVersion ++ [50, 46, 48]) :: str (kProdid ++ [45, 47, 47, 116, 105, 109, 101, 116, 97, 98, 108, 101, 47, 47, 69, 78]) :: str (kName ++ n) :: str (kRevision ++ Lib.decDigits v.toNat) :: tailL es z := by
 unfold feedL tailL; rw [List.map_append, List.map_append]; rfl
theorem parse50X (s n z : ByteArray) (v m : Int) (es : List Ev) (ls : List (List UInt8)) (w : World) (hs : s.size <= 262144) (hv : feedV n v es = 0) (hzc : Tt.code z.data.toList = true) (heb : ∀ e ∈ es, EvB e) (hu : Tt.unf s.data.toList = some ls) (hkx : keepX (ls.map str) = (feedL n.data.toList v es z.data.toList).map str) (hm : w.cell? ⟨0, 0, none⟩ = some (.int .i64 m)) (hL : Lens w) (hPw : Pow w) (h6 : 6 < w.heap.size) :
  Calls Tryz.prog 50 #[.string s, .string z] w fun x w' => ∃ (pu : Option Addr) (cu : Nat) (ts : List (Ev × Value × Value)), ts.map (·.1) = es /\ x = .returned (.tuple #[.agg #[.string n, .int .i64 v, .slice pu ts.length cu], .int .i64 0]) /\ RowT w.heap.size w' (.slice pu ts.length cu) ts /\ Below w.heap.size w w' := by
 have HZ := Lh hzc; have hz : z.size <= 1000 := Nat.le_trans (code_size hzc) (by decide); obtain ⟨hv0, hv1, hel, hev⟩ := feedV_ok hv; have HEV := Lh (evsV_each v es none hev); have HFV := Lh hv; have HEB := Lh heb; obtain ⟨hll, hln⟩ := feedL_lines (n := n) hv hzc; obtain ⟨xs, hxs⟩ : ∃ xs, xs = (feedL n.data.toList v es z.data.toList).map str := ⟨_, rfl⟩
 have hln : xs.length <= 4000 := by rw [hxs]; exact hln
 have HXS := Lh hxs; have HKX := Lh (show keepX (ls.map str) = xs from by rw [hxs]; exact hkx); have HU := Lh hu; have HLW := Lh hL; have HPW := Lh hPw; have HM := Lh hm; have H6 := Lh h6; have L0 : Below w.heap.size w (w.alloc (.cells #[.string ⟨#[]⟩, .int .i64 0, .slice none 0 0] 26)) := (Below.refl _ w).alloc (Nat.le_refl _) _; have R0 : FeedB w.heap.size ⟨#[]⟩ 0 (.slice none 0 0) (w.alloc (.cells #[.string ⟨#[]⟩, .int .i64 0, .slice none 0 0] 26)) := heap_alloc_new w _; have hm0 := (L0.cell (p := ⟨0, 0, none⟩) (show 0 < w.heap.size by omega)).trans hm; have hsi : ¬ ((262144 : Int) < (s.size : Int)) := by omega
 clear hzc hu hv hev hm hL hPw hll hxs heb hkx; go_enter Tryz.func50, Tryz.ntmps50; go_wp2_with fail; refine (code_any _ _).mono ?_; rintro e w1 ⟨rfl, hw⟩; rw [hw]; clear hw w1; rw [HZ.out]; go_wp2_with fail; refine (unfold_any s (by omega) _ m hm0).mono ?_; rintro e w1 ⟨hU, hb1⟩; obtain ⟨g, cap, ys, hys, rfl, hstr, hg1, hg2, hcap, hyl, hfz⟩ : ∃ (g cap : Nat) (ys : List ByteArray), ys = ls.map str /\ e = .returned (.tuple #[.slice (some ⟨g, 0, none⟩) ys.length cap, .bool true]) /\ StrAt w1 (some ⟨g, 0, none⟩) ys /\ w.heap.size + 1 <= g /\ g < w1.heap.size /\ ys.length <= cap /\ ys.length <= s.size + 1 /\ ∀ j, w1.frozen? ⟨g, j, none⟩ = false := by
  rcases hU with ⟨h1, _⟩ | ⟨g, cap, ys, h1, h2, h3, h4, h5, h6, h7, t, cs, h8⟩
  ·rw [HU.out] at h1; cases h1
  ·rw [HU.out] at h1; exact ⟨g, cap, ys, map_data_inj (by rw [<- Option.some.inj h1]; simp [List.map_map, Function.comp_def, str]), h2, h3, by simpa using h4, h5, h6, by rw [Lib.size_eq]; exact h7, fun j => Lib.frozen_of_heap h8 j⟩
 have HYS := Lh hys; have hkk : keepX ys = xs := by rw [hys]; exact HKX.out
 have HSTR := Lh hstr; have L1 := L0.trans (hb1.mono (by simp)); have R1 : FeedB w.heap.size ⟨#[]⟩ 0 (.slice none 0 0) w1 := (hb1.block _ (by simp)).trans R0; have s1 : w.heap.size + 1 <= w1.heap.size := by have := hb1.size; simpa using this
 have HFZ := Lh hfz; have HKK := Lh hkk; clear hstr hm0 L0 R0 hb1 hU hys hfz hkk; go_wp2_with fail; refine (delete102 g cap ys _ (by omega) hcap HSTR.out HFZ.out).mono ?_; rintro e w2 ⟨rfl, hstr, ho2⟩; rw [HKK.out] at hstr ⊢; have hxy : xs.length <= ys.length := by rw [<- HKK.out]; exact List.length_filter_le _ _
 have L1 := L1.trans (ho2.below (show w.heap.size <= g by omega)); have R1 := R1.block (ho2.2.2.2.2 w.heap.size (by omega)); have hg2 : g < w2.heap.size := by rw [ho2.2.2.2.1]; exact hg2
 have s1 : w.heap.size + 1 <= w2.heap.size := by rw [ho2.2.2.2.1]; exact s1
 obtain ⟨w1, hw12⟩ : ∃ q, q = w2 := ⟨_, rfl⟩
 rw [<- hw12] at hstr L1 R1 hg2 s1 ⊢; have HSTR := Lh hstr; clear hstr ho2 hw12 HFZ HKK; go_wp2_with fail; obtain ⟨W, hW, P0, F0, R2, L2, T2, s2⟩ := parse_start w.heap.size g cap xs z w w1 0 hg1 hg2 (by omega) HSTR.out L1 R1; rw [show w1.drewN 0 = w1 from rfl] at hW; have HW := Lh hW; obtain ⟨p, hp⟩ : ∃ p, p = w1.heap.size := ⟨_, rfl⟩
 have HP := Lh hp; rw [<- HP.out] at P0 F0 s2 s1 hg2; have hrp : w.heap.size < p := by omega
 have hgl : g < W.heap.size := by omega
 obtain ⟨tl, htl⟩ : ∃ q, q = tailL es z.data.toList := ⟨_, rfl⟩
 have HTL := Lh htl; have P0' : Par p g 0 cap (str (kBegin ++ []) :: str (kVersion ++ [50, 46, 48]) :: str (kProdid ++ [45, 47, 47, 116, 105, 109, 101, 116, 97, 98, 108, 101, 47, 47, 69, 78]) :: str (kName ++ n.data.toList) :: str (kRevision ++ Lib.decDigits v.toNat) :: tl) z false W := by
  have := P0; rw [HXS.out, feedL_split, <- HTL.out] at this; exact this
 clear hW hp P0 L1 R1 hcap htl; rw [<- HW.out, <- HP.out]; refine (take_any p g _ _ _ _ z ⟨#[66, 69, 71, 73, 78, 58, 86, 67, 65, 76, 69, 78, 68, 65, 82]⟩ _ W P0' (prefix_app kBegin _)).mono ?_; rintro e w3 ⟨rfl, ⟨o3, c3, P3⟩, K3⟩; rw [show (⟨(Lib.trimPrefix (str (kBegin ++ [])).data.toList (⟨#[66, 69, 71, 73, 78, 58, 86, 67, 65, 76, 69, 78, 68, 65, 82]⟩ : ByteArray).data.toList).toArray⟩ : ByteArray) = str [] from congrArg str (trim_app kBegin _)]; clear P0'; go_wp2_with fail; refine (take_any p g _ _ _ _ z ⟨#[86, 69, 82, 83, 73, 79, 78, 58]⟩ _ w3 P3 (prefix_app kVersion _)).mono ?_; rintro e w4 ⟨rfl, ⟨o4, c4, P4⟩, K4⟩; rw [show (⟨(Lib.trimPrefix (str (kVersion ++ [50, 46, 48])).data.toList (⟨#[86, 69, 82, 83, 73, 79, 78, 58]⟩ : ByteArray).data.toList).toArray⟩ : ByteArray) = str [50, 46, 48] from congrArg str (trim_app kVersion _)]; clear P3; go_wp2_with fail; refine (take_any p g _ _ _ _ z ⟨#[80, 82, 79, 68, 73, 68, 58]⟩ _ w4 P4 (prefix_app kProdid _)).mono ?_; rintro e w5 ⟨rfl, ⟨o5, c5, P5⟩, K5⟩; rw [show (⟨(Lib.trimPrefix (str (kProdid ++ [45, 47, 47, 116, 105, 109, 101, 116, 97, 98, 108, 101, 47, 47, 69, 78])).data.toList (⟨#[80, 82, 79, 68, 73, 68, 58]⟩ : ByteArray).data.toList).toArray⟩ : ByteArray) = str [45, 47, 47, 116, 105, 109, 101, 116, 97, 98, 108, 101, 47, 47, 69, 78] from congrArg str (trim_app kProdid _)]; clear P4; go_wp2_with fail; refine (take_any p g _ _ _ _ z ⟨#[78, 65, 77, 69, 58]⟩ _ w5 P5 (prefix_app kName _)).mono ?_; rintro e w6 ⟨rfl, ⟨o6, c6, P6⟩, K6⟩; rw [show (⟨(Lib.trimPrefix (str (kName ++ n.data.toList)).data.toList (⟨#[78, 65, 77, 69, 58]⟩ : ByteArray).data.toList).toArray⟩ : ByteArray) = str n.data.toList from congrArg str (trim_app kName _)]; clear P5; rw [str_data]; have K : Only p W w6 := ((K3.trans K4).trans K5).trans K6; have F6 := F0.block (K.2.2.2.2 (p + 1) (by omega)); have R6 := R2.block (K.2.2.2.2 w.heap.size (by omega)); have T6 := strAt_block T2 (K.2.2.2.2 g (by have := P6.ne; omega)); have L6 := L2.trans (K.below (by omega)); have s6 : W.heap.size <= w6.heap.size := Nat.le_of_eq K.2.2.2.1.symm; clear K3 K4 K5 K6 K F0 R2 T2 L2; have hf := F6.fr 0; have cf := F6.c0; have hgp : g < p := hg2; go_wp2_with fail; obtain ⟨w7, hw7⟩ : ∃ w7, w7 = w6.setCell ⟨p + 1, 0, none⟩ (.string n) := ⟨_, rfl⟩
 rw [<- hw7]; have h67 : ∀ k, k ≠ p + 1 -> w7.heap[k]? = w6.heap[k]? := fun k hk => by rw [hw7]; exact Below.heap_setCell _ _ _ _ hk
 have F7 : FeedB (p + 1) n 0 (.slice none 0 0) w7 := by
  rw [hw7]; exact F6.name
 have P7 := P6.other (h67 p (by omega)) (h67 g (by omega)); have R7 := R6.block (h67 w.heap.size (by omega)); have T7 := strAt_block T6 (h67 g (by omega)); have L7 : Below w.heap.size w w7 := by rw [hw7]; exact L6.setCell (by simp; omega) _
 have s7 : W.heap.size <= w7.heap.size := by rw [hw7]; simpa [World.setCell] using s6
 have hp7 : Hid (p + 2 <= w7.heap.size) := F7.lt; clear hf cf hw7 h67 F6 P6 R6 T6 L6 s6; refine (take_any p g _ _ _ _ z ⟨#[82, 69, 86, 73, 83, 73, 79, 78, 58]⟩ _ w7 P7 (prefix_app kRevision _)).mono ?_; rintro e w8 ⟨rfl, ⟨o8, c8, P8⟩, K8⟩; rw [show (⟨(Lib.trimPrefix (str (kRevision ++ (Lib.decDigits v.toNat))).data.toList (⟨#[82, 69, 86, 73, 83, 73, 79, 78, 58]⟩ : ByteArray).data.toList).toArray⟩ : ByteArray) = str (Lib.decDigits v.toNat) from congrArg str (trim_app kRevision _)]; clear P7; go_wp2_with fail; refine (number_any p g _ _ _ z (str (Lib.decDigits v.toNat)) v (by rw [show (str (Lib.decDigits v.toNat)).size = (Lib.decDigits v.toNat).length from size_mk _]; exact Nat.le_trans (Tt.dec_len 4 _ (by omega)) (by decide)) (by rw [show (str (Lib.decDigits v.toNat)).data.toList = Lib.decDigits v.toNat from rfl, Tt.atoi_dec]; congr 1; omega) w8 P8 (by rw [K8.2.2.2.1]; omega)).mono ?_; rintro e w9 ⟨rfl, P9, K9⟩; have h79 : ∀ k, k < w7.heap.size -> k ≠ p -> w9.heap[k]? = w7.heap[k]? := fun k hk hkp => (K9.block k (by rw [K8.2.2.2.1]; exact hk) hkp).trans (K8.2.2.2.2 k hkp)
 have F9 := F7.block (h79 (p + 1) F7.lt (by omega)); have R9 := R7.block (h79 w.heap.size R7.lt (by omega)); have T9 := strAt_block T7 (h79 g (by omega) (by omega)); have s9 : W.heap.size <= w9.heap.size := by have := K9.size; rw [K8.2.2.2.1] at this; omega
 have L9 := L7.trans ((K8.below (by omega : w.heap.size <= p)).trans (K9.below (by omega) (by rw [K8.2.2.2.1]; omega))); have hf := F9.fr 1; have cf := F9.c1; have cb := P9.c2; clear P8 K8 K9 h79 F7 R7 T7 L7 s7 hp7; go_upto_block 1 with fail
 obtain ⟨w10, hw10⟩ : ∃ w10, w10 = w9.setCell ⟨p + 1, 1, none⟩ (.int .i64 v) := ⟨_, rfl⟩
 rw [<- hw10]; have h67 : ∀ k, k ≠ p + 1 -> w10.heap[k]? = w9.heap[k]? := fun k hk => by rw [hw10]; exact Below.heap_setCell _ _ _ _ hk
 have F10 := Lh (show FeedB (p + 1) n v (.slice none 0 0) w10 from by rw [hw10]; exact F9.rev); have P10 := Lh (P9.other (h67 p (by omega)) (h67 g (by omega))); have R10 := Lh (R9.block (h67 w.heap.size (by omega))); have T10 := Lh (strAt_block T9 (h67 g (by omega))); have L10 : Hid (Below w.heap.size w w10) := Lh (by rw [hw10]; exact L9.setCell (by simp; omega) _); have hz10 : Hid (p + 2 <= w10.heap.size) := Lh F10.out.lt; clear hf cf cb hw10 h67 F9 P9 R9 T9 L9 s9; obtain ⟨i0, hi, hz0, hz1, hz2⟩ := info_parts infoEv; have hfg : p + 1 ≠ g := by omega
 have hfp : p + 1 ≠ p := by omega
 have hp3 : 3 < p := by omega
 have hgp2 : g < p := hg2; go_loopg [] es.length (fun j wx => ∃ (pu : Option Addr) (cu : Nat) (ts : List (Ev × Value × Value)) (e2 : List Ev), Hid (e2.length = j) /\ Hid (ts.map (·.1) ++ e2 = es) /\ Hid (∃ o cap, Par p g o cap (tailL e2 z.data.toList) z false wx) /\ Hid (FeedB (p + 1) n v (.slice pu ts.length cu) wx) /\ Hid (RowT (p + 2) wx (.slice pu ts.length cu) ts) /\ Hid (FeedB w.heap.size ⟨#[]⟩ 0 (.slice none 0 0) wx) /\ Hid (StrAt wx (some ⟨g, 0, none⟩) xs) /\ Hid (Below w.heap.size w wx) /\ p + 2 <= wx.heap.size)
 case atStart => exact ⟨none, 0, [], es, Lh rfl, Lh rfl, Lh ⟨_, _, by rw [<- HTL.out]; exact P10.out⟩, F10, Lh (RowT.nil _ _), R10, T10, L10, hz10.out⟩
 case round =>
  clear F10 P10 R10 T10 L10 hz10; obtain ⟨pu, cu, ts, e2, HJ, HES, HP, HF, HT, HR, HTX, HLB, hRw⟩ := hrel; have hbad : wr.cell? ⟨p, 2, none⟩ = some (.bool false) := by obtain ⟨o, cap, h⟩ := HP.out; exact h.c2
  cases gk with
  | zero =>
   have hes : e2 = [] := List.eq_nil_of_length_eq_zero HJ.out; subst hes; have HM1 := Lh (show ts.map (·.1) = es from by have h := HES.out; rwa [List.append_nil] at h); obtain ⟨o, cap2, hpar⟩ := HP.out; have HPAR := Lh hpar; clear hpar HES HJ HP; have hpm : Lib.hasPrefix (str [69, 78, 68, 58, 86, 67, 65, 76, 69, 78, 68, 65, 82]).data.toList (⟨#[66, 69, 71, 73, 78, 58, 86, 69, 86, 69, 78, 84]⟩ : ByteArray).data.toList = false := rfl; have HC : Hid (Calls Tryz.prog 107 #[.pointer (some ⟨p, 0, none⟩), .string ⟨#[66, 69, 71, 73, 78, 58, 86, 69, 86, 69, 78, 84]⟩] wr fun e w' => ∃ q, e = .returned (.tuple #[.string q, .bool false]) /\ w' = wr) := Lh (by
    have h1 := see_any p g o cap2 _ _ z ⟨#[66, 69, 71, 73, 78, 58, 86, 69, 86, 69, 78, 84]⟩ false wr HPAR.out; rw [hpm] at h1; exact h1.mono fun e w' hh => ⟨_, hh⟩)
   go_wp2_with fail; refine HC.out.mono ?_; rintro e wq ⟨q, rfl, hx⟩; rw [hx]; clear hx wq HC hpm; obtain ⟨pa, ca, hva, -, hseg⟩ := HT.out.seg; cases hva; have hlen : ts.length <= 256 := by have h := congrArg List.length HM1.out; rw [List.length_map] at h; omega
   have HEVS : Hid (Evs wr.heap.size wr pu es) := Lh (by rw [<- HM1.out]; exact hseg.evs); clear hseg; have HV : Hid (∀ W, Below wr.heap.size wr W -> Calls Tryz.prog 46 #[.agg #[.string n, .int .i64 v, .slice pu ts.length cu]] W fun e w' => e = .returned (.int .i64 0) /\ Below W.heap.size W w') := Lh (fun W hW => by
    have h := valid46 n v es pu cu wr.heap.size W hW.size (HEVS.out.below hW) (by omega); rw [HFV.out, <- HM1.out, List.length_map] at h; exact h)
   have HWR : Hid (∀ W, Below wr.heap.size wr W -> Calls Tryz.prog 100 #[.agg #[.string n, .int .i64 v, .slice pu ts.length cu], .string z] W fun e w' => ∃ g cap, e = .returned (.slice (some ⟨g, 0, none⟩) xs.length cap) /\ StrAt w' (some ⟨g, 0, none⟩) xs /\ Below W.heap.size W w') := Lh (fun W hW => by
    have h := written100 n v pu cu es z wr.heap.size W hW.size (HEVS.out.below hW) HFV.out HZ.out ((HLW.out.below (by omega) HLB.out).below (by omega) hW) ((HPW.out.below H6.out HLB.out).below (by omega) hW) (by have := hW.size; omega); rw [show es.length = ts.length from by rw [<- HM1.out, List.length_map]] at h; refine h.mono ?_; rintro e w' ⟨g2, cap2, rfl, h1, _, _, _, h2⟩; refine ⟨g2, cap2, ?_, by rw [HXS.out]; exact h1, h2⟩; rw [HXS.out, List.length_map])
   have cf0 := HF.out.c0; have cf1 := HF.out.c1; have cf2 := HF.out.c2; go_wp2_with fail; refine (HV.out _ (Below.refl _ _)).mono ?_; rintro e w11 ⟨rfl, hb11⟩; have F11 := HF.out.block (hb11.block _ HF.out.lt); clear cf0 cf1 cf2; have cf0 := F11.c0; have cf1 := F11.c1; have cf2 := F11.c2; go_wp2_with fail; refine (HWR.out w11 hb11).mono ?_; rintro e w12 ⟨g2, cap2, rfl, HT2, hb12⟩; have HB12 := Lh (hb11.trans (hb12.mono hb11.size)); have hTT := Lh HT2; have F12 := HF.out.block (HB12.out.block _ HF.out.lt); have T12 := Lh (strAt_block HTX.out (HB12.out.block g (by omega))); clear cf0 cf1 cf2 F11 hb11 hb12 HT2; go_wp2_with fail; refine (equal_any _ _ _ _ _ _ xs xs rfl rfl (by omega) (by omega) w12 hTT.out T12.out).mono ?_; rintro e w13 ⟨rfl, q2, hw⟩; rw [hw, show decide (xs = xs) = true from decide_eq_true rfl]; clear hw w13; have HB13 : Hid (Below wr.heap.size wr (w12.drewN q2)) := Lh (HB12.out.trans ⟨rfl, rfl, rfl, Nat.le_refl _, fun k hk => rfl⟩); obtain ⟨w13, hw⟩ : ∃ w13, w13 = w12.drewN q2 := ⟨_, rfl⟩
   rw [<- hw] at HB13 ⊢; clear hw F12 T12 hTT HB12; have F13 := HF.out.block (HB13.out.block _ HF.out.lt); have R13 := HR.out.block (HB13.out.block _ HR.out.lt); have T13 := HT.out.made HB13.out; have cf0 := F13.c0; have cf1 := F13.c1; have cf2 := F13.c2; have cr0 := R13.c0; have cr1 := R13.c1; have cr2 := R13.c2; have fr0 := R13.fr 0; have fr1 := R13.fr 1; have fr2 := R13.fr 2; go_wp2_with fail; obtain ⟨w14, hw⟩ : ∃ w14, w14 = ((w13.setCell ⟨w.heap.size, 0, none⟩ (.string n)).setCell ⟨w.heap.size, 1, none⟩ (.int .i64 v)).setCell ⟨w.heap.size, 2, none⟩ (.slice pu ts.length cu) := ⟨_, rfl⟩
   rw [<- hw]; have R14 : FeedB w.heap.size n v (.slice pu ts.length cu) w14 := by rw [hw]; exact R13.name.rev.evs
   have L14 : Below w.heap.size w w14 := by
    rw [hw]; exact (((HLB.out.trans (HB13.out.mono (by omega))).setCell (Nat.le_refl _) _).setCell (Nat.le_refl _) _).setCell (Nat.le_refl _) _
   have T14 : RowT (p + 2) w14 (.slice pu ts.length cu) ts := by
    rw [hw]; exact ((T13.set (show Blk w.heap.size _ 26 w13 from R13) (by decide) (by decide) 0 _).set (show Blk w.heap.size _ 26 _ from R13.name) (by decide) (by decide) 1 _).set (show Blk w.heap.size _ 26 _ from R13.name.rev) (by decide) (by decide) 2 _
   clear hw cf0 cf1 cf2 cr0 cr1 cr2 fr0 fr1 fr2; have cr0 := R14.c0; have cr1 := R14.c1; have cr2 := R14.c2; refine bodyPost_ret (v := .tuple #[.agg #[.string n, .int .i64 v, .slice pu ts.length cu], .int .i64 0]) (by simp [results, Tryz.results50, go_sem, cr0, cr1, cr2]) rfl ?_; exact ⟨pu, cu, ts, HM1.out, rfl, T14.mono (by omega), L14⟩
  | succ j =>
   obtain ⟨ev, e3, rfl⟩ : ∃ ev e3, e2 = ev :: e3 := by
    cases e2 with
    | nil => exact absurd HJ.out (by simp)
    | cons a r => exact ⟨a, r, rfl⟩
   have hmem : ev ∈ es := by rw [<- HES.out]; simp
   have hts : ts.length <= 256 := by have h := congrArg List.length HES.out; rw [List.length_append, List.length_map] at h; omega
   have HCK := Lh (HEV.out ev hmem).2; have HEB1 := Lh (HEB.out ev hmem); clear hmem; have hpw : p < wr.heap.size := by omega
   have hpw2 : p <= wr.heap.size := by omega
   have HGW := Lh (show g < wr.heap.size by omega); have HLWr := Lh (HLW.out.below (by omega) HLB.out); have HMWr := Lh ((HLB.out.cell (p := ⟨0, 0, none⟩) (show 0 < w.heap.size by omega)).trans HM.out); obtain ⟨L1, hl1⟩ : ∃ q, q = tailL (ev :: e3) z.data.toList := ⟨_, rfl⟩
   obtain ⟨L2, hl2⟩ : ∃ q, q = tailL e3 z.data.toList := ⟨_, rfl⟩
   have HEL := Lh (show L1 = (evLines ev z.data.toList).map str ++ L2 from by rw [hl1, hl2]; exact tail_cons _ _ _); have HL2 := Lh hl2; obtain ⟨lq, hlq⟩ := tail_head ev e3 z.data.toList; rw [<- hl1] at HP hlq; have HHD := Lh hlq; clear hl1 hl2 hlq; have HC : Hid (Calls Tryz.prog 107 #[.pointer (some ⟨p, 0, none⟩), .string ⟨#[66, 69, 71, 73, 78, 58, 86, 69, 86, 69, 78, 84]⟩] wr fun e w' => ∃ q, e = .returned (.tuple #[.string q, .bool true]) /\ w' = wr) := Lh (by
    obtain ⟨o, cap, h⟩ := HP.out; rw [HHD.out] at h; have h1 := see_any p g o cap _ _ z ⟨#[66, 69, 71, 73, 78, 58, 86, 69, 86, 69, 78, 84]⟩ false wr h; rw [show (str (kEvent ++ [])).data.toList = kEvent ++ [] from rfl] at h1; refine h1.mono ?_; rintro e w' ⟨rfl, rfl⟩; exact ⟨_, by rw [show Lib.hasPrefix (kEvent ++ []) (⟨#[66, 69, 71, 73, 78, 58, 86, 69, 86, 69, 78, 84]⟩ : ByteArray).data.toList = true from prefix_app kEvent []], rfl⟩)
   go_wp2_with fail; refine HC.out.mono ?_; rintro e wq ⟨q, rfl, hx⟩; rw [hx]; clear hx wq HC hbad; go_upto_region 19 with (fail); refine wp_region_tail 5 (by kernel_rfl) (fun listed a x => ∃ (l0 l1 l2 l3 l4 : Bool) (t60 t61 t62 t63 t64 : Value), listed = #[l0, l1, l2, l3, l4, false, false, false] /\ a = ⟨(.string s :: .string z :: undef :: undef :: .pointer (some ⟨w.heap.size, 0, none⟩) :: .int .i64 0 :: .slice (some ⟨g, 0, none⟩) xs.length cap :: .bool true :: .pointer (some ⟨p, 0, none⟩) :: .pointer (some ⟨p + 1, 0, none⟩) :: .string q :: .bool true :: .string s :: .int .i64 s.size :: .bool false :: undef :: .string z :: .bool true :: .bool false :: undef :: .tuple #[.slice (some ⟨g, 0, none⟩) ys.length cap, .bool true] :: .string s :: .tuple #[.slice (some ⟨g, 0, none⟩) ys.length cap, .bool true] :: .slice (some ⟨g, 0, none⟩) ys.length cap :: .bool true :: .bool true :: .bool false :: undef :: .slice (some ⟨g, 0, none⟩) ys.length cap :: .slice (some ⟨g, 0, none⟩) xs.length cap :: .slice (some ⟨g, 0, none⟩) xs.length cap :: .string z :: .agg #[.slice (some ⟨g, 0, none⟩) xs.length cap, .string z, .bool false] :: .pointer (some ⟨p, 0, none⟩) :: .pointer (some ⟨p, 0, none⟩) :: .string (str []) :: .pointer (some ⟨p, 0, none⟩) :: .string (str [50, 46, 48]) :: .pointer (some ⟨p, 0, none⟩) :: .string (str [45, 47, 47, 116, 105, 109, 101, 116, 97, 98, 108, 101, 47, 47, 69, 78]) :: .pointer (some ⟨p, 0, none⟩) :: .string n :: .pointer (some ⟨p + 1, 0, none⟩) :: .pointer (some ⟨p, 0, none⟩) :: .pointer (some ⟨p, 0, none⟩) :: .string (str (Lib.decDigits v.toNat)) :: .int .i64 v :: .pointer (some ⟨p + 1, 1, none⟩) :: .pointer (some ⟨p, 0, none⟩) :: .pointer (some ⟨p, 0, none⟩) :: .pointer (some ⟨p, 2, none⟩) :: .bool false :: .bool true :: .tuple #[.string q, .bool true] :: .pointer (some ⟨p, 0, none⟩) :: .tuple #[.string q, .bool true] :: .string q :: .bool true :: .bool true :: .bool false :: t60 :: t61 :: t62 :: t63 :: t64 :: u65 :: u66 :: undef :: undef :: undef :: undef :: undef :: undef :: undef :: undef :: undef :: undef :: undef :: undef :: undef :: undef :: undef :: undef :: undef :: undef :: undef :: []).toArray, []⟩ /\ Hid (l0 = true -> t60 = .pointer (some ⟨p + 1, 2, none⟩)) /\ Hid (l1 = true -> t61 = .slice pu ts.length cu) /\ Hid (l2 = true -> t62 = .pointer (some ⟨p, 0, none⟩)) /\ Hid (l3 = true -> l4 = false -> ∃ (pv : Option Addr) (cv : Nat) (pw : Option Addr) (cw : Nat), t63 = evVal ev (.slice pv ev.days.ex.length cv) (.slice pw ev.days.xt.length cw) /\ RowI wr.heap.size x (.slice pv ev.days.ex.length cv) ev.days.ex /\ RowI wr.heap.size x (.slice pw ev.days.xt.length cw) ev.days.xt) /\ Hid (l4 = true -> ∃ (pv : Option Addr) (cv : Nat) (pw : Option Addr) (cw : Nat) (gg : Nat), t64 = .slice (some ⟨gg, 0, none⟩) 1 1 /\ wr.heap.size <= gg /\ Blk gg (evCells ev (.slice pv ev.days.ex.length cv) (.slice pw ev.days.xt.length cw)) 82 x /\ RowI wr.heap.size x (.slice pv ev.days.ex.length cv) ev.days.ex /\ RowI wr.heap.size x (.slice pw ev.days.xt.length cw) ev.days.xt) /\ Hid (EvS p g z L1 L2 l3 wr x)) (by decide) (by kernel_rfl) (by kernel_rfl) ?_ ?_ ?_ ?_
   ·exact ⟨false, false, false, false, false, _, _, _, _, _, rfl, rfl, Lh (fun h => by cases h), Lh (fun h => by cases h), Lh (fun h => by cases h), Lh (fun h => by cases h), Lh (fun h => by cases h), Lh (EvS.start HP.out)⟩
   ·intro listed a x hj; obtain ⟨l0, l1, l2, l3, l4, t60, hj⟩ := hj; obtain ⟨t61, t62, t63, t64, hj⟩ := hj; obtain ⟨h1, -⟩ := hj; subst h1; exact ⟨rfl, fun k h1 h2 => by (have h2 : k < 8 := h2); rcases (show k = 5 ∨ k = 6 ∨ k = 7 by omega) with rfl | rfl | rfl <;> rfl⟩
   ·intro listed a x i hj hlt hu haf; obtain ⟨l0, l1, l2, l3, l4, t60, hj⟩ := hj; obtain ⟨t61, t62, t63, t64, hl_, ha_, hj⟩ := hj; obtain ⟨H0, H1, H2, H3, H4, hj⟩ := hj; have HS := hj; clear hj; subst hl_; subst ha_; rcases (show ∀ i : Nat, i < 5 -> (i = 0 ∨ i = 1 ∨ i = 2 ∨ i = 3 ∨ i = 4) by decide) i hlt with rfl | rfl | rfl | rfl | rfl
    ·have haf := haf _ rfl; clear haf; have hu : l0 = false := hu; refine wpOp_of_list_any rfl fun QQ hQ => ?_
     have hQQ := Lh hQ; clear hQ; simp only [eT, eZ]; go_wp2_with fail; exact hQQ.out _ _ ⟨true, l1, l2, l3, l4, _, _, _, _, _, rfl, rfl, Lh (fun _ => rfl), H1, H2, H3, H4, HS⟩
    ·have haf := haf _ rfl; have q0 : l0 = true := haf ⟨0, Go.Ground.data⟩ (by simp) rfl; clear haf; have hu : l1 = false := hu; have e0 := (H0.out q0)
     subst e0; clear H0; have hc := (HS.out.feed HF.out).c2; refine wpOp_of_list_any rfl fun QQ hQ => ?_
     have hQQ := Lh hQ; clear hQ; simp only [eT, eZ, eS]; go_wp2_with fail; exact hQQ.out _ _ ⟨l0, true, l2, l3, l4, _, _, _, _, _, rfl, rfl, Lh (fun _ => rfl), Lh (fun _ => rfl), H2, H3, H4, HS⟩
    ·have haf := haf _ rfl; clear haf; have hu : l2 = false := hu; refine wpOp_of_list_any rfl fun QQ hQ => ?_
     have hQQ := Lh hQ; clear hQ; simp only [eT, eZ, eS]; go_wp2_with fail; exact hQQ.out _ _ ⟨l0, l1, true, l3, l4, _, _, _, _, _, rfl, rfl, H0, H1, Lh (fun _ => rfl), H3, H4, HS⟩
    ·have haf := haf _ rfl; have q2 : l2 = true := haf ⟨2, Go.Ground.data⟩ (by simp) rfl; clear haf; have hu : l3 = false := hu; have e2 := (H2.out q2)
     subst e2; clear H2; refine wpOp_of_list_any rfl fun QQ hQ => ?_
     have hQQ := Lh hQ; clear hQ; simp only [eT, eZ, eS]; go_wp2_with fail; refine (HS.out.ev hu HEL.out HGW.out hp3 HLWr.out HMWr.out HCK.out hv1 hz hpw).mono ?_; rintro e x1 ⟨v, v2, rfl, hX, hY, hS1, hK1⟩; have hk := Kept.but hK1 hpw; have hX : RowI wr.heap.size x1 v ev.days.ex := ownsRow_mono hX HS.out.but.size; have hY : RowI wr.heap.size x1 v2 ev.days.xt := ownsRow_mono hY HS.out.but.size; obtain ⟨pv, cv, hv⟩ := hX.slice; obtain ⟨pw, cw, hw⟩ := hY.slice; subst hv; subst hw; have HX1 := Lh hX; have HY1 := Lh hY; have HS1 := Lh hS1; clear hX hY hS1 hK1; go_wp2_with fail; exact hQQ.out _ _ ⟨l0, l1, l2, true, l4, _, _, _, _, _, rfl, rfl, H0, H1, Lh (fun _ => rfl), Lh (fun _ _ => ⟨pv, cv, pw, cw, rfl, HX1.out, HY1.out⟩), Lh (fun h => (by obtain ⟨pv, cv, pw, cw, gg, e, c0, c1, c2, c3⟩ := H4.out h; exact ⟨pv, cv, pw, cw, gg, e, c0, (hk _ _ _ c0 c1), (row_kept c2 hk), (row_kept c3 hk)⟩)), HS1⟩
    ·have haf := haf _ rfl; have q3 : l3 = true := haf ⟨3, Go.Ground.data⟩ (by simp) rfl; clear haf; have hu : l4 = false := hu; obtain ⟨pv3, cv3, pw3, cw3, e3, c3_0, c3_1⟩ := (H3.out q3 hu)
     subst e3; clear H3; unfold evVal evCells; have HX1 := Lh c3_0; have HY1 := Lh c3_1; clear c3_0 c3_1; refine wpOp_of_list_any rfl fun QQ hQ => ?_
     have hQQ := Lh hQ; clear hQ; simp only [eT, eZ, eS]; go_wp2_with fail; exact hQQ.out _ _ ⟨l0, l1, l2, l3, true, _, _, _, _, _, rfl, rfl, H0, H1, H2, Lh (fun _ h => by cases h), Lh (fun _ => ⟨pv3, cv3, pw3, cw3, _, rfl, HS.out.but.size, Blk.new x _ _, World.ownsRow.alloc HX1.out _, World.ownsRow.alloc HY1.out _⟩), Lh (HS.out.alloc _ HGW.out)⟩
   ·intro listed a x hj hall; obtain ⟨l0, l1, l2, l3, l4, t60, hj⟩ := hj; obtain ⟨t61, t62, t63, t64, hl_, ha_, hj⟩ := hj; obtain ⟨H0, H1, H2, H3, H4, hj⟩ := hj; have HS := hj; clear hj; subst hl_; subst ha_; have q1 : l1 = true := hall 1 (by omega); have q3 : l3 = true := hall 3 (by omega); have q4 : l4 = true := hall 4 (by omega); clear hall; have e1 := (H1.out q1)
    subst e1; obtain ⟨pv4, cv4, pw4, cw4, gg4, e4, c4_0, c4_1, c4_2, c4_3⟩ := (H4.out q4)
    subst e4; have HT1 := Lh (HT.out.butT (Nat.lt_add_of_pos_right (by decide)) HS.out.but); have HF1 := HS.out.feed HF.out; have hsz := HS.out.but.size; have hpz : p + 2 <= x.heap.size := Nat.le_trans hRw hsz; have HE1 : RefT (p + 2) x (ev, (.slice pv4 ev.days.ex.length cv4), (.slice pw4 ev.days.xt.length cw4)) := ⟨HEB1.out, ownsRow_mono c4_2 hRw, ownsRow_mono c4_3 hRw⟩
    obtain ⟨o1, cap1, HP1⟩ : ∃ o cap, Par p g o cap L2 z false x := by have h := HS.out.par; rw [q3] at h; exact h
    have HK1 := HS.out.but; clear c4_2 c4_3; refine tail_any (fun a x => ∃ (t60 t61 t62 t63 t64 t65 t66 : Value), a = ⟨(.string s :: .string z :: undef :: undef :: .pointer (some ⟨w.heap.size, 0, none⟩) :: .int .i64 0 :: .slice (some ⟨g, 0, none⟩) xs.length cap :: .bool true :: .pointer (some ⟨p, 0, none⟩) :: .pointer (some ⟨p + 1, 0, none⟩) :: .string q :: .bool true :: .string s :: .int .i64 s.size :: .bool false :: undef :: .string z :: .bool true :: .bool false :: undef :: .tuple #[.slice (some ⟨g, 0, none⟩) ys.length cap, .bool true] :: .string s :: .tuple #[.slice (some ⟨g, 0, none⟩) ys.length cap, .bool true] :: .slice (some ⟨g, 0, none⟩) ys.length cap :: .bool true :: .bool true :: .bool false :: undef :: .slice (some ⟨g, 0, none⟩) ys.length cap :: .slice (some ⟨g, 0, none⟩) xs.length cap :: .slice (some ⟨g, 0, none⟩) xs.length cap :: .string z :: .agg #[.slice (some ⟨g, 0, none⟩) xs.length cap, .string z, .bool false] :: .pointer (some ⟨p, 0, none⟩) :: .pointer (some ⟨p, 0, none⟩) :: .string (str []) :: .pointer (some ⟨p, 0, none⟩) :: .string (str [50, 46, 48]) :: .pointer (some ⟨p, 0, none⟩) :: .string (str [45, 47, 47, 116, 105, 109, 101, 116, 97, 98, 108, 101, 47, 47, 69, 78]) :: .pointer (some ⟨p, 0, none⟩) :: .string n :: .pointer (some ⟨p + 1, 0, none⟩) :: .pointer (some ⟨p, 0, none⟩) :: .pointer (some ⟨p, 0, none⟩) :: .string (str (Lib.decDigits v.toNat)) :: .int .i64 v :: .pointer (some ⟨p + 1, 1, none⟩) :: .pointer (some ⟨p, 0, none⟩) :: .pointer (some ⟨p, 0, none⟩) :: .pointer (some ⟨p, 2, none⟩) :: .bool false :: .bool true :: .tuple #[.string q, .bool true] :: .pointer (some ⟨p, 0, none⟩) :: .tuple #[.string q, .bool true] :: .string q :: .bool true :: .bool true :: .bool false :: t60 :: t61 :: t62 :: t63 :: t64 :: t65 :: t66 :: undef :: undef :: undef :: undef :: undef :: undef :: undef :: undef :: undef :: undef :: undef :: undef :: undef :: undef :: undef :: undef :: undef :: undef :: undef :: []).toArray, []⟩ /\ ∃ (pu2 : Option Addr) (cu2 : Nat) (t : Ev × Value × Value), t.1 = ev /\ FeedB (p + 1) n v (.slice pu2 (ts.length + 1) cu2) x /\ RowT (p + 2) x (.slice pu2 (ts.length + 1) cu2) (ts ++ [t]) /\ (∃ o cap, Par p g o cap L2 z false x) /\ Below p wr x /\ p + 2 <= x.heap.size) ?_ fun QQ hQ => ?_
    ·intro a x hpost; obtain ⟨t60, t61, t62, t63, t64, t65, hpost⟩ := hpost; obtain ⟨t66, ha_, hpost⟩ := hpost; subst ha_; obtain ⟨pu2, cu2, t, p0, p1, p2, p3, p4, p5⟩ := hpost; go_wp2_with fail; go_roundg j
     case measure => omega
     case rel =>
      refine ⟨pu2, cu2, ts ++ [t], e3, Lh (by have h := HJ.out; simpa using h), Lh (by rw [<- HES.out, List.map_append, List.append_assoc]; simp [p0]), Lh (by rw [<- HL2.out]; exact p3), Lh (by rw [List.length_append]; exact p1), Lh (by rw [List.length_append]; exact p2), Lh (HR.out.block (p4.block _ (by omega))), Lh (strAt_block HTX.out (p4.block g hgp2)), Lh (HLB.out.trans (p4.mono (by omega))), p5⟩
    have hQQ := Lh hQ; clear hQ; simp only [List.drop_succ_cons, List.drop_zero]; go_wp2_with (at_builtin; refine wpList_append_own_at _ rfl (.tmp 61) (.tmp 64) 22 rfl (p + 2) 82 i0 _ 13 160 Tryz.underlying22 hi hz0 hz1 hz2 rfl (by decide) _ _ _ rfl HT1.out.row ⟨gg4, 0, none⟩ 1 1 _ rfl rfl (blk_cells c4_1) (evCells_one _ _ _ _ _ _ _) (by unfold maxLen; omega) (by omega) (by omega) ?_); intro v' x8 hown8 hgrow _ hat; obtain ⟨p8, q8, hv8⟩ := ownsRow_len hown8; subst hv8; have T8 := HT1.out.snoc HE1 hgrow hown8; have F8 := HF1.grownT HT1.out.row (Nat.lt_succ_self _) hgrow; have P8 := HP1.grownT HT1.out.row (by omega) hgp2 hgrow; have K8 := below_grownBy (HK1.below (Nat.le_refl p) hpw2) HT1.out.row (by omega) (Nat.le_trans hpw2 hsz) hgrow; have hc := F8.c2; have hz8 := F8.fr 2; have HF9 := Lh (F8.evs (ev' := .slice p8 (ts.length + 1) q8)); have HT9 := Lh (T8.set (show Blk (p + 1) _ 26 x8 from F8) (by decide) (by decide) 2 (.slice p8 (ts.length + 1) q8)); have HP9 := Lh (P8.set (show p + 1 ≠ p by omega) hfg 2 (.slice p8 (ts.length + 1) q8)); have HK9 := Lh (K8.setCell (p := ⟨p + 1, 2, none⟩) (show p <= p + 1 by omega) (.slice p8 (ts.length + 1) q8)); have HZ9 := Lh (show p + 2 <= x8.heap.size from Nat.le_trans hpz hgrow.size); clear hgrow hown8 hat T8 F8 P8 K8 HF1 HT1 HE1 HP1 HK1 c4_0 c4_1; go_wp2_with fail; exact hQQ.out _ _ ⟨_, _, _, _, _, _, _, rfl, _, _, (ev, _, _), rfl, HF9.out, HT9.out, ⟨_, _, HP9.out⟩, HK9.out, by simpa [World.setCell] using HZ9.out⟩
end Go.Proofs.YtageielcdebjlaaGreatDoor
