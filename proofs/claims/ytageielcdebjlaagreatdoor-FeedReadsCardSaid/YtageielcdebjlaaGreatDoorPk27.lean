/- The reference's Parse (function 53) on any text: exact. Both parsers of feeds, the program's and the reference's, answer alike on any text. -/
import Derived.Test.YtageielcdebjlaaGreatDoorRefQ
import Derived.Test.YtageielcdebjlaaGreatDoorRefL
import Derived.Test.YtageielcdebjlaaGreatDoorPk26
set_option maxRecDepth 100000
set_option maxHeartbeats 40000000
namespace Go.Proofs.YtageielcdebjlaaGreatDoor
open Go.RowKit
theorem keep_step {xs : List ByteArray} {k : Nat} {x : ByteArray} (h : xs[k]? = some x) : keepX (xs.take (k + 1)) = keepX (xs.take k) ++ (if isX x = true then [] else [x]) := by
 obtain ⟨h1, h2⟩ := List.getElem?_eq_some_iff.1 h; unfold keepX; rw [List.take_add_one, h, List.filter_append]; congr 1
 cases hx : isX x
 ·rw [if_neg (by decide)]; simp [hx]
 ·rw [if_pos rfl]; simp [hx]
def ParsedR (z : ByteArray) (xs : List ByteArray) (w : World) (x : Ending) (w' : World) : Prop :=
 (x = .returned (.tuple #[.agg #[.string ⟨#[]⟩, .int .i64 0, .slice none 0 0], .int .i64 15]) /\ Below w.heap.size w w' /\ ∀ (n : ByteArray) (v : Int) (es : List Ev), runR z.data.toList xs.length xs (⟨#[]⟩, 0, []) = (n, v, es) -> feedV n v es = 0 -> ¬ (feedL n.data.toList v es z.data.toList).map str = xs) ∨
 ∃ (n : ByteArray) (v : Int) (pu : Option Addr) (cu : Nat) (ts : List (Ev × Value × Value)), x = .returned (.tuple #[.agg #[.string n, .int .i64 v, .slice pu ts.length cu], .int .i64 0]) /\ feedV n v (ts.map (·.1)) = 0 /\ (feedL n.data.toList v (ts.map (·.1)) z.data.toList).map str = xs /\ RowT w.heap.size w' (.slice pu ts.length cu) ts /\ Below w.heap.size w w'
structure Rd53 (P : Nat) (wP : World) (n : ByteArray) (v : Int) (pu : Option Addr) (cu : Nat) (ts : List (Ev × Value × Value)) (x : World) : Prop where
 feed : FeedB P n v (.slice pu ts.length cu) x
 row : RowT (P + 1) x (.slice pu ts.length cu) ts
 below : Below P wP x
section
variable {P : Nat} {wP : World} {n : ByteArray} {v : Int} {pu : Option Addr} {cu : Nat} {ts : List (Ev × Value × Value)} {x : World}
theorem Rd53.made (h : Rd53 P wP n v pu cu ts x) {y : World} (hb : Below x.heap.size x y) : Rd53 P wP n v pu cu ts y :=
 ⟨h.feed.block (hb.block P h.feed.lt), h.row.made hb, h.below.trans (hb.mono (Nat.le_of_lt h.feed.lt))⟩
theorem Rd53.name (h : Rd53 P wP n v pu cu ts x) (n' : ByteArray) : Rd53 P wP n' v pu cu ts (x.setCell ⟨P, 0, none⟩ (.string n')) :=
 ⟨h.feed.name, h.row.set (show Blk P _ 26 x from h.feed) (by decide) (by decide) 0 _, h.below.setCell (p := ⟨P, 0, none⟩) (Nat.le_refl P) _⟩
theorem Rd53.rev (h : Rd53 P wP n v pu cu ts x) (v' : Int) : Rd53 P wP n v' pu cu ts (x.setCell ⟨P, 1, none⟩ (.int .i64 v')) :=
 ⟨h.feed.rev, h.row.set (show Blk P _ 26 x from h.feed) (by decide) (by decide) 1 _, h.below.setCell (p := ⟨P, 1, none⟩) (Nat.le_refl P) _⟩
end
theorem addr_at (g i : Nat) : (⟨g, 0, none⟩ : Addr).add i = ⟨g, i, none⟩ := by cases i <;> simp [Addr.add]
theorem txt_kept {xs : List ByteArray} {ao : Option Addr} {P lo : Nat} {w w' : World} (h : ∀ i x, xs[i]? = some x -> ∃ g, ao = some ⟨g, 0, none⟩ /\ lo <= g /\ g < P /\ w.cell? ⟨g, i, none⟩ = some (.string x)) (hb : Below P w w') : StrAt w' ao xs := by
 intro i x hx; obtain ⟨g, rfl, -, h2, h3⟩ := h i x hx; refine ⟨_, rfl, ?_⟩; rw [addr_at]; exact (hb.cell (p := ⟨g, i, none⟩) h2).trans h3
theorem exit26 {R : Nat} {w0 w : World} {n : ByteArray} {v : Int} {ev : Value} (h : FeedB R n v ev w) (hb : Below R w0 w) (n' : ByteArray) (v' : Int) (ev' : Value) :
  ∃ Y, Y = ((w.setCell ⟨R, 0, none⟩ (.string n')).setCell ⟨R, 1, none⟩ (.int .i64 v')).setCell ⟨R, 2, none⟩ ev' /\ FeedB R n' v' ev' Y /\ Below R w0 Y :=
 ⟨_, rfl, h.name.rev.evs, ((hb.setCell (p := ⟨R, 0, none⟩) (Nat.le_refl R) _).setCell (p := ⟨R, 1, none⟩) (Nat.le_refl R) _).setCell (p := ⟨R, 2, none⟩) (Nat.le_refl R) _⟩
theorem parse53 (s z : ByteArray) (ls : List (List UInt8)) (w : World) (hs : s.size <= 262144) (hzc : Tt.code z.data.toList = true) (hu : Tt.unf s.data.toList = some ls) :
  Calls Tryz.prog 53 #[.string s, .string z] w (ParsedR z (keepX (ls.map str)) w) := by
 have HZ := Lh hzc; have hz : z.size <= 1000 := Nat.le_trans (code_size hzc) (by decide); obtain ⟨xs, hxs⟩ : ∃ xs, xs = keepX (ls.map str) := ⟨_, rfl⟩
 have HSM := Lh (show ∀ x ∈ xs, x.size <= 262144 from by
  intro x hx; rw [hxs] at hx; obtain ⟨l, hl, rfl⟩ := List.mem_map.1 (List.mem_filter.1 hx).1; rw [show (str l).size = l.length from size_mk _]; exact Nat.le_trans (Tt.unf_bound hu l hl) (by rw [<- Lib.size_eq]; exact hs))
 have HKX := Lh (show keepX (ls.map str) = xs from hxs.symm); rw [<- hxs]; have HU := Lh hu; obtain ⟨R, hR⟩ : ∃ R, R = w.heap.size := ⟨_, rfl⟩
 have L0 : Below R w (w.alloc (.cells #[.string ⟨#[]⟩, .int .i64 0, .slice none 0 0] 26)) := by rw [hR]; exact below_box w _
 have R0 : FeedB R ⟨#[]⟩ 0 (.slice none 0 0) (w.alloc (.cells #[.string ⟨#[]⟩, .int .i64 0, .slice none 0 0] 26)) := by rw [hR]; exact heap_alloc_new w _
 obtain ⟨W0, hW0⟩ : ∃ W0, W0 = w.alloc (.cells #[.string ⟨#[]⟩, .int .i64 0, .slice none 0 0] 26) := ⟨_, rfl⟩
 rw [<- hW0] at L0 R0; have HL0 := Lh L0; have HR0 := Lh R0; have HRW := Lh hR; have hsi : ¬ ((262144 : Int) < (s.size : Int)) := by omega
 obtain ⟨i0, hi, hz0, hz1, hz2⟩ := info_parts infoEv; obtain ⟨i1, hj, hy0, hy2, hy3⟩ := info_parts infoString; clear hzc hu hxs L0 R0; go_enter Tryz.func53, Tryz.ntmps53; go_upto_region 1 with (fail); rw [<- hW0, <- hR]; clear hW0 hR; go_wp2_with fail; refine (code97 _ _).mono ?_; rintro q1 w1 ⟨rfl, hx⟩; rw [hx, HZ.out]; clear hx w1; go_wp2_with fail; refine (refUnfold_any s (by omega) _).mono ?_; rintro e w1 ⟨hU, hb1⟩; obtain ⟨g0, cap0, ys, hys, rfl, HC0, hg0, hyl⟩ : ∃ (g cap : Nat) (ys : List ByteArray), keepX ys = xs /\ e = .returned (.tuple #[.slice (some ⟨g, 0, none⟩) ys.length cap, .bool true]) /\ Hid (∀ i x, ys[i]? = some x -> w1.cell? ⟨g, i, none⟩ = some (.string x)) /\ g < w1.heap.size /\ ys.length <= s.size + 1 := by
  rcases hU with ⟨h1, _⟩ | ⟨g, cap, ys, h1, h2, h3, h4, h5, h6, h7, -⟩
  ·rw [HU.out] at h1; cases h1
  ·rw [HU.out] at h1; have hy : ys = ls.map str := map_data_inj (by rw [<- Option.some.inj h1]; simp [List.map_map, Function.comp_def, str]); refine ⟨g, cap, ys, by rw [hy]; exact HKX.out, h2, Lh ?_, h5, by rw [Lib.size_eq]; exact h7⟩; intro i x hx; obtain ⟨a, ha, hc⟩ := h3 i x hx; cases ha; rw [addr_at] at hc; exact hc
 have HYS := Lh hys; have HL1 := Lh (HL0.out.trans (hb1.mono (Nat.le_of_lt HR0.out.lt))); have HR1 := Lh (HR0.out.block (hb1.block R HR0.out.lt)); have hRw1 : R < w1.heap.size := by have := HR0.out.lt; have := hb1.size; omega
 have hxl : xs.length <= ys.length := by rw [<- hys]; exact List.length_filter_le _ _
 obtain ⟨n0, hn0⟩ : ∃ n0, n0 = ys.length := ⟨_, rfl⟩
 rw [<- hn0] at hyl hxl ⊢; have HN0 := Lh hn0; clear hys hb1 hU hn0 HL0 HR0; go_wp2_with fail; go_loopw [8, 9] (fun lv iv wr => ∃ k : Nat, k <= n0 /\ iv = .int .i64 k /\ Hid (wr.ownsRow w1.heap.size 9 1 lv (keepX (ys.take k)).length ((keepX (ys.take k)).map Value.string)) /\ Hid (Below w1.heap.size w1 wr)) (fun _ iv _ => n0 - (intOf iv).toNat)
 case atStart => exact ⟨0, Nat.zero_le _, rfl, Lh (World.ownsRow_nil _ _ _ _), Lh (Below.refl _ _)⟩
 case round =>
  obtain ⟨k, hk, rfl, HO, HB⟩ := hrel; by_cases hlt : k < n0
  ·have hki : (k : Int) < n0 := by omega
   obtain ⟨ln, hx⟩ : ∃ ln, ys[k]? = some ln := ⟨_, List.getElem?_eq_getElem (by rw [<- HN0.out]; exact hlt)⟩
   have hcx : wr.cell? ⟨g0, k, none⟩ = some (.string ln) := (HB.out.cell (p := ⟨g0, k, none⟩) hg0).trans (HC0.out k ln hx); have hgr : g0 < wr.heap.size := by have := HB.out.size; omega
   have HST := Lh (keep_step hx); have hkl : (keepX (ys.take k)).length <= k := Nat.le_trans (List.length_filter_le _ _) (List.length_take_le _ _); have hk00 : (0 : Int) <= (k : Int) := by omega
   clear hx hlt; go_wp2_with fail; refine (begins_step ln ⟨#[88, 45]⟩ [88, 45] _ rfl).mono ?_; rintro q1 w2 ⟨B, r0, rfl, hp, -, hx⟩; rw [hx]; clear hx w2; have HP := Lh (show B = isX ln from hp); clear hp; cases B
   ·have hsz := HB.out.size; have hkp : keepX (ys.take (k + 1)) = keepX (ys.take k) ++ [ln] := by rw [HST.out, if_neg (by rw [<- HP.out]; decide)]
    have HKP := Lh hkp; clear hkp; obtain ⟨K, hK⟩ : ∃ K, K = keepX (ys.take k) := ⟨_, rfl⟩
    rw [<- hK] at hkl HO HKP; clear hK HST; obtain ⟨pk, ck, hv⟩ := ownsRow_len HO.out; subst hv; go_wp2_with (at_builtin; refine wpList_append_own_at _ rfl (.tmp 54) (.tmp 59) 60 rfl w1.heap.size 9 i1 (.string ⟨#[]⟩) 1 16 Tryz.underlying60 hj hy0 hy2 hy3 rfl (by decide) _ _ _ rfl (HO.out.alloc _) ⟨wr.heap.size, 0, none⟩ 1 1 [.string ln] rfl rfl (cell_one _ _ _) (by intro u hu; simp at hu; subst hu; rfl) (by unfold maxLen; omega) (by omega) (by simp; omega) ?_); intro v' x8 hown8 hgrow _ hat; have HB8 := Lh (below_grownBy ((HB.out).trans ((below_box wr _).mono HB.out.size)) (HO.out.alloc _) (Nat.le_refl _) (by have := HB.out.size; simp; omega) hgrow); have HO8 := Lh (show x8.ownsRow w1.heap.size 9 1 v' (keepX (ys.take (k + 1))).length ((keepX (ys.take (k + 1))).map Value.string) from by rw [HKP.out, List.map_append, List.length_append]; simpa using hown8); clear hgrow hown8 hat HO HB; go_wp2_with fail; go_roundw
    case rel => exact ⟨k + 1, by omega, by go_num, HO8, HB8⟩
    case measure => simp [intOf]; omega
   ·have hkp : keepX (ys.take (k + 1)) = keepX (ys.take k) := by rw [HST.out, if_pos HP.out.symm, List.append_nil]
    rw [<- hkp] at HO; clear hkp HST; go_wp2_with fail; go_roundw
    case rel => exact ⟨k + 1, by omega, by go_num, HO, HB⟩
    case measure => simp [intOf]; omega
  ·have hki : ¬ (k : Int) < n0 := by omega
   have hkk : keepX (ys.take k) = xs := by rw [List.take_of_length_le (by rw [<- HN0.out]; omega)]; exact HYS.out
   rw [hkk] at HO; clear hkk; obtain ⟨wP, hwP⟩ : ∃ wP, wP = wr := ⟨_, rfl⟩
   rw [<- hwP] at HO HB ⊢; obtain ⟨ao, cap, hv, HC⟩ : ∃ (ao : Option Addr) (cap : Nat), u8 = .slice ao xs.length cap /\ Hid (∀ i x, xs[i]? = some x -> ∃ g, ao = some ⟨g, 0, none⟩ /\ w1.heap.size <= g /\ g < wP.heap.size /\ wP.cell? ⟨g, i, none⟩ = some (.string x)) := by
    have hcr := HO.out.2; rcases hcr with ⟨h1, h0⟩ | ⟨g, cap, cur, hv, hg, hgh, hlc, _⟩
    ·obtain ⟨p1, c1, h2⟩ := ownsRow_len HO.out; refine ⟨p1, c1, h2, Lh ?_⟩; intro i x hx; have := (List.getElem?_eq_some_iff.1 hx).1; omega
    ·refine ⟨_, cap, hv, Lh ?_⟩; intro i x hx; have hb := HO.out; rw [hv] at hb; refine ⟨g, rfl, (hb.lt g rfl).1, (hb.lt g rfl).2, ?_⟩; have h1 := (List.getElem?_eq_some_iff.1 hx).1; rw [hb.cellAt i (by omega), List.getElem?_map, hx]; rfl
   subst hv; clear hwP wr; have HRP := Lh (HR1.out.block (HB.out.block R hRw1)); have HLP := Lh (HL1.out.trans (HB.out.mono (Nat.le_of_lt hRw1))); clear HO hki hk HR1 HL1 HC0 HN0 HYS HB; obtain ⟨P, hP⟩ : ∃ P, P = wP.heap.size := ⟨_, rfl⟩
   obtain ⟨W1, hW1⟩ : ∃ W1, W1 = wP.alloc (.cells #[.string ⟨#[]⟩, .int .i64 0, .slice none 0 0] 26) := ⟨_, rfl⟩
   have HS0 := Lh (show Rd53 P wP ⟨#[]⟩ 0 none 0 [] W1 from by rw [hP, hW1]; exact ⟨heap_alloc_new wP _, RowT.nil _ _, below_box wP _⟩); have hRP : R < P := by rw [hP]; exact HRP.out.lt
   rw [<- hP] at HC; obtain ⟨F, hF⟩ : ∃ F, F = runR z.data.toList xs.length xs (⟨#[]⟩, 0, []) := ⟨_, rfl⟩
   have HF := Lh hF; have HF0 := Lh (show runR z.data.toList xs.length (xs.drop 0) (⟨#[]⟩, 0, []) = F from hF.symm); go_upto_region 16 with (fail); rw [<- hW1, <- hP]; clear hW1 hP hF; go_wp2_with fail; go_loopw [13] (fun iv wr => ∃ (k m : Nat) (n : ByteArray) (v : Int) (pu : Option Addr) (cu : Nat) (ts : List (Ev × Value × Value)), iv = .int .i64 k /\ k <= xs.length + 1 /\ ts.length <= k /\ Hid (runR z.data.toList m (xs.drop k) (n, v, ts.map (·.1)) = F) /\ Hid ((xs.drop k).length <= m) /\ Hid (Rd53 P wP n v pu cu ts wr)) (fun iv _ => xs.length + 1 - (intOf iv).toNat)
   case atStart => exact ⟨0, xs.length, _, _, _, _, [], rfl, Nat.zero_le _, Nat.zero_le _, HF0, Lh (by simp), HS0⟩
   case round =>
    clear HF0 HS0; obtain ⟨k, m, n, v, pu, cu, ts, rfl, hk, htk, HRUN, HM, HS⟩ := hrel; by_cases hlt : k < xs.length
    ·have hki : (k : Int) < xs.length := by omega
     obtain ⟨ln, hx⟩ : ∃ ln, xs[k]? = some ln := ⟨_, List.getElem?_eq_getElem hlt⟩
     have HDR := Lh (show xs.drop k = ln :: xs.drop (k + 1) from by obtain ⟨g1, g2⟩ := List.getElem?_eq_some_iff.1 hx; rw [List.drop_eq_getElem_cons g1, g2]); obtain ⟨g, hao, hg1, hgP, hcP⟩ := HC.out k ln hx; subst hao; have hcx : wr.cell? ⟨g, k, none⟩ = some (.string ln) := (HS.out.below.cell (p := ⟨g, k, none⟩) hgP).trans hcP; have hgr : g < wr.heap.size := by have := HS.out.feed.lt; omega
     have hxs := HSM.out ln (List.mem_of_getElem? hx); obtain ⟨m, rfl⟩ : ∃ q, m = q + 1 := ⟨m - 1, by have := HM.out; rw [HDR.out, List.length_cons] at this; omega⟩
     have hk00 : (0 : Int) <= (k : Int) := by omega
     have hk1 : k + 1 <= xs.length + 1 := by omega
     clear hcP hx hlt; go_wp2_with fail; refine (begins_step ln ⟨#[78, 65, 77, 69, 58]⟩ kNam _ rfl).mono ?_; rintro q1 w2 ⟨P0, r0, rfl, hp, hr, hx⟩; rw [hx]; clear hx w2; have HPP0 := Lh hp; have HRR0 := Lh hr; clear hp hr; go_upto_if 75 with (fail)
     go_cut [] from 76 to 77 (fun wx => ∃ n1 : ByteArray, Hid (nameS n ln = n1) /\ Hid (Rd53 P wP n1 v pu cu ts wx))
     case first =>
      cases P0
      ·go_wp2_with fail; go_meet; exact ⟨n, Lh (if_f HPP0.out.symm), HS⟩
      ·have f0 := HS.out.feed.fr 0; have c0 := HS.out.feed.c0; have HS1 := Lh (HS.out.name r0); go_wp2_with fail; go_meet; exact ⟨r0, Lh (by unfold nameS; rw [if_t HPP0.out.symm, <- HRR0.out (by trivial)]), HS1⟩
     case rest =>
     obtain ⟨n1, HN1, HS1⟩ := hcut; clear HPP0 HRR0 hcx hgr HS; have hcx : wc.cell? ⟨g, k, none⟩ = some (.string ln) := by
      obtain ⟨g2, ha, -, -, h3⟩ := HC.out k ln (by rw [<- List.head?_drop, HDR.out]; rfl); cases ha; exact (HS1.out.below.cell (p := ⟨g, k, none⟩) hgP).trans h3
     have hgr : g < wc.heap.size := by have := HS1.out.feed.lt; omega
     go_wp2_with fail; refine (begins_step ln ⟨#[82, 69, 86, 73, 83, 73, 79, 78, 58]⟩ kRev _ rfl).mono ?_; rintro q1 w2 ⟨P1, r1, rfl, hp, hr, hx⟩; rw [hx]; clear hx w2; have HPP1 := Lh hp; have HRR1 := Lh hr; clear hp hr; go_upto_if 86 with (fail)
     go_cut [] from 87 to 89 (fun wx => ∃ v1 : Int, Hid (revS v ln = v1) /\ Hid (Rd53 P wP n1 v1 pu cu ts wx))
     case first =>
      cases P1
      ·go_wp2_with fail; go_meet; exact ⟨v, Lh (if_f HPP1.out.symm), HS1⟩
      ·have hr1 : r1.size <= 262144 := by rw [HRR1.out (by trivial)]; exact Nat.le_trans (aft_size _ _) hxs
       have f0 := HS1.out.feed.fr 1; have c0 := HS1.out.feed.c1; have HS2 := Lh (HS1.out.rev (Tt.numR r1.data.toList)); go_wp2_with fail; refine (number115 _ _ (by omega)).mono ?_; rintro q1 w2 ⟨rfl, hx⟩; rw [hx]; clear hx w2; go_wp2_with fail; go_meet; exact ⟨_, Lh (by unfold revS; rw [if_t HPP1.out.symm, <- HRR1.out (by trivial)]), HS2⟩
     case rest =>
      obtain ⟨v1, HV1, HS2⟩ := hcut; clear HPP1 HRR1 hcx hgr HS1; have hcx : wc.cell? ⟨g, k, none⟩ = some (.string ln) := by
       obtain ⟨g2, ha, -, -, h3⟩ := HC.out k ln (by rw [<- List.head?_drop, HDR.out]; rfl); cases ha; exact (HS2.out.below.cell (p := ⟨g, k, none⟩) hgP).trans h3
      have hgr : g < wc.heap.size := by have := HS2.out.feed.lt; omega
      cases hbe : (ln.toList == [66, 69, 71, 73, 78, 58, 86, 69, 86, 69, 78, 84])
      ·have HRN := Lh (show runR z.data.toList m (xs.drop (k + 1)) (n1, v1, ts.map (·.1)) = F from by
       rw [<- HRUN.out, HDR.out, runR_line _ _ _ _ _ (by rw [<- Lib.toList_data]; intro h; rw [h] at hbe; cases hbe)]; show _ = runR z.data.toList m (xs.drop (k + 1)) (nameS n ln, revS v ln, ts.map (·.1))
       rw [HN1.out, HV1.out])
       have HM1 := Lh (show (xs.drop (k + 1)).length <= m from by have := HM.out; rw [HDR.out, List.length_cons] at this; omega); clear HRUN HM HN1 HV1 HDR; go_wp2_with fail; go_roundw
       case rel => exact ⟨k + 1, m, n1, v1, pu, cu, ts, by go_num, hk1, by omega, HRN, HM1, HS2⟩
       case measure => simp [intOf]; omega
      ·have HBE := Lh (show ln.data.toList = kBeg from by rw [<- Lib.toList_data]; exact beq_iff_eq.1 hbe); have hxl2 : xs.length <= 1000000 := by omega
       have HCE := Lh (show ∀ (i : Nat) (x : ByteArray), xs[i]? = some x -> wc.cell? ⟨g, i, none⟩ = some (.string x) /\ x.size <= 262144 from by
        intro i x hx; obtain ⟨g2, ha, -, h2, h3⟩ := HC.out i x hx; cases ha; exact ⟨(HS2.out.below.cell (p := ⟨g, i, none⟩) h2).trans h3, HSM.out x (List.mem_of_getElem? hx)⟩)
       have hkx : k <= xs.length := by omega
       go_wp2_with fail; refine (event116 xs g xs.length cap k z _ rfl HCE.out hgr hkx hxl2 hz).mono ?_; rintro q1 w2 ⟨e, p, p', c, c', j, rfl, he, hj2, hkj, hjn, hEB, hX, hY, hb2⟩; have HRN := Lh (show runR z.data.toList m (xs.drop (j + 1)) (n1, v1, ts.map (·.1) ++ [e]) = F from by
        rw [<- HRUN.out, HDR.out, runR_event _ _ _ _ _ HBE.out, <- HDR.out, <- hj2, <- he, List.drop_drop]; show _ = runR z.data.toList m (xs.drop (j + 1)) (nameS n ln, revS v ln, ts.map (·.1) ++ [e])
        rw [HN1.out, HV1.out])
       have HM1 := Lh (show (xs.drop (j + 1)).length <= m from by have := HM.out; rw [List.length_drop] at this ⊢; omega); have hP2 : P < wc.heap.size := HS2.out.feed.lt; have HS3 := Lh (HS2.out.made hb2); have HEB := Lh hEB; have HX2 := Lh (show RowI (P + 1) w2 (.slice p e.days.ex.length c) e.days.ex from ownsRow_mono hX (by omega)); have HY2 := Lh (show RowI (P + 1) w2 (.slice p' e.days.xt.length c') e.days.xt from ownsRow_mono hY (by omega)); clear he hj2 hEB hX hY hb2 HRUN HM HN1 HV1 HDR HCE HS2 HBE hcx hbe hgr hP2; unfold evVal evCells; go_upto_region 27 with (fail); obtain ⟨G, hG⟩ : ∃ G, G = w2.heap.size := ⟨_, rfl⟩
       obtain ⟨W, hW⟩ : ∃ W, W = w2.alloc (.cells #[.string e.uid, .int .i64 e.seq, .bool e.canc, .int .i64 e.days.first, .int .i64 e.days.last, .int .i64 e.days.every, .int .i64 e.days.wd, .slice p e.days.ex.length c, .slice p' e.days.xt.length c', .int .i64 e.start, .int .i64 e.mins, .string e.summ, .string e.loc] 82) := ⟨_, rfl⟩
       rw [<- hG, <- hW]; have hB9 : Blk G (evCells e (.slice p e.days.ex.length c) (.slice p' e.days.xt.length c')) 82 W := by rw [hW]; exact Blk.new' w2 _ 82 hG
       have hbW : Below w2.heap.size w2 W := by rw [hW]; exact below_box w2 _
       have HS4 := Lh (HS3.out.made hbW); have HX3 := Lh (ownsRow_below HX2.out hbW); have HY3 := Lh (ownsRow_below HY2.out hbW); have HRF := Lh (show RefT (P + 1) W (e, (.slice p e.days.ex.length c), (.slice p' e.days.xt.length c')) from ⟨HEB.out, HX3.out, HY3.out⟩); clear hW hbW hG HS3 HX2 HY2 HX3 HY3; have fc := HS4.out.feed.c2; have y0 := hB9.cell 0; have y1 := hB9.cell 1; have y2 := hB9.cell 2; have y3 := hB9.cell 3; have y4 := hB9.cell 4; have y5 := hB9.cell 5; have y6 := hB9.cell 6; have y7 := hB9.cell 7; have y8 := hB9.cell 8; have y9 := hB9.cell 9; have y10 := hB9.cell 10; have y11 := hB9.cell 11; have y12 := hB9.cell 12; simp only [evCells, qT, qZ, qS] at y0 y1 y2 y3 y4 y5 y6 y7 y8 y9 y10 y11 y12; have hts : ts.length <= 1000000 := by omega
       clear hB9; have hwp : P < W.heap.size := HS4.out.feed.lt; obtain ⟨X, hX⟩ : ∃ X, X = W.alloc (.cells #[.string e.uid, .int .i64 e.seq, .bool e.canc, .int .i64 e.days.first, .int .i64 e.days.last, .int .i64 e.days.every, .int .i64 e.days.wd, .slice p e.days.ex.length c, .slice p' e.days.xt.length c', .int .i64 e.start, .int .i64 e.mins, .string e.summ, .string e.loc] 82) := ⟨_, rfl⟩
       have HBX := Lh (show Blk W.heap.size (evCells e (.slice p e.days.ex.length c) (.slice p' e.days.xt.length c')) 82 X from by rw [hX]; exact Blk.new W _ 82); have HS5 := Lh (show Rd53 P wP n1 v1 pu cu ts X from HS4.out.made (by rw [hX]; exact below_box W _)); have HRX := Lh (show RefT (P + 1) X (e, (.slice p e.days.ex.length c), (.slice p' e.days.xt.length c')) from by rw [hX]; exact HRF.out.alloc _); have hXs : W.heap.size < X.heap.size := HBX.out.lt; have HXE := Lh hX; clear hX HRF; go_wp2_with (at_builtin; rw [show W.alloc _ = X from HXE.out.symm]; refine wpList_append_own_at _ rfl (.tmp 103) (.tmp 105) 22 rfl (P + 1) 82 i0 _ 13 160 Tryz.underlying22 hi hz0 hz1 hz2 rfl (by decide) _ _ _ rfl HS5.out.row.row ⟨W.heap.size, 0, none⟩ 1 1 _ rfl rfl (blk_cells HBX.out) (evCells_one _ _ _ _ _ _ _) (by unfold maxLen; omega) (by omega) (by omega) ?_); intro v' x8 hown8 hgrow _ hat; obtain ⟨p8, q8, hv8⟩ := ownsRow_len hown8; subst hv8; have T8 := HS5.out.row.snoc HRX.out hgrow hown8; have F8 := HS5.out.feed.grownT HS5.out.row.row (Nat.lt_succ_self _) hgrow; have K8 := below_grownBy HS5.out.below HS5.out.row.row (Nat.le_succ P) (Nat.le_of_lt HS5.out.feed.lt) hgrow; have hc8 := F8.c2; have hz8 := F8.fr 2; have HS9 := Lh (show Rd53 P wP n1 v1 p8 q8 (ts ++ [(e, (.slice p e.days.ex.length c), (.slice p' e.days.xt.length c'))]) (x8.setCell ⟨P, 2, none⟩ (.slice p8 (ts.length + 1) q8)) from ⟨by rw [List.length_append]; exact F8.evs, by rw [List.length_append]; exact T8.set (show Blk P _ 26 x8 from F8) (by decide) (by decide) 2 _, K8.setCell (p := ⟨P, 2, none⟩) (Nat.le_refl P) _⟩); clear hgrow hown8 hat T8 F8 K8 HS4 HS5 HRX HBX fc y0 y1 y2 y3 y4 y5 y6 y7 y8 y9 y10 y11 y12; go_wp2_with fail; go_roundw
       case rel => exact ⟨j + 1, m, n1, v1, p8, q8, ts ++ [(e, (.slice p e.days.ex.length c), (.slice p' e.days.xt.length c'))], by go_num, by omega, by rw [List.length_append]; simp; omega, Lh (by rw [List.map_append]; exact HRN.out), HM1, HS9⟩
       case measure => simp [intOf]; omega
    ·have hki : ¬ (k : Int) < xs.length := by omega
     have HFQ := Lh (show F = (n, v, ts.map (·.1)) from by rw [<- HRUN.out, List.drop_eq_nil_of_le (by omega), runR_nil]); clear HRUN HM; obtain ⟨es, hes⟩ : ∃ es, es = ts.map (·.1) := ⟨_, rfl⟩
     have HES := Lh hes; rw [<- hes] at HFQ; clear hes; have HRS := Lh (show ∀ W, Below wr.heap.size wr W -> FeedB R ⟨#[]⟩ 0 (.slice none 0 0) W /\ Below R w W from fun W hW => ⟨(HRP.out.block (HS.out.below.block R hRP)).block (hW.block R (by have := HS.out.feed.lt; omega)), (HLP.out.trans (HS.out.below.mono (Nat.le_of_lt hRP))).trans (hW.mono (by have := HS.out.feed.lt; omega))⟩); have HTX := Lh (show ∀ W, Below wr.heap.size wr W -> StrAt W ao xs from fun W hW => txt_kept HC.out (HS.out.below.trans (hW.mono (Nat.le_of_lt HS.out.feed.lt)))); obtain ⟨pa, ca, hva, -, hseg⟩ := HS.out.row.seg; cases hva; have HEVS : Hid (Evs wr.heap.size wr pu es) := Lh (by rw [HES.out]; exact hseg.evs); have hel : ts.length = es.length := by rw [HES.out, List.length_map]
     have HEL := Lh hel; clear hseg hel; have htl : ts.length <= 1000000 := by omega
     obtain ⟨E, hE⟩ : ∃ E, E = feedV n v es := ⟨_, rfl⟩
     have HE2 := Lh hE; have HV : Hid (Calls Tryz.prog 47 #[.agg #[.string n, .int .i64 v, .slice pu ts.length cu]] wr fun e w' => e = .returned (.int .i64 E) /\ Below wr.heap.size wr w') := Lh (by
      have h := valid47 n v es pu cu wr.heap.size wr (Nat.le_refl _) HEVS.out (by have := HEL.out; omega); rw [<- hE, <- HEL.out] at h; exact h)
     clear hE; have cf0 := HS.out.feed.c0; have cf1 := HS.out.feed.c1; have cf2 := HS.out.feed.c2; go_wp2_with fail; refine HV.out.mono ?_; rintro e w11 ⟨rfl, hb11⟩; have HB11 := Lh hb11; clear hb11 cf0 cf1 cf2 HV; by_cases hE0 : E = 0
     ·subst hE0; have HFV := Lh (show feedV n v es = 0 from HE2.out.symm); obtain ⟨hfl, hfn⟩ := feedL_lines (n := n) HFV.out HZ.out; obtain ⟨fs, hfs⟩ : ∃ fs, fs = (feedL n.data.toList v es z.data.toList).map str := ⟨_, rfl⟩
      have hfn : fs.length <= 4000 := by rw [hfs]; exact hfn
      have HFS := Lh hfs; clear hfl hfs; have HSB := Lh (HS.out.made HB11.out); have HWR : Hid (Calls Tryz.prog 52 #[.agg #[.string n, .int .i64 v, .slice pu ts.length cu], .string z] w11 fun e w' => ∃ fo fc, e = .returned (.slice fo fs.length fc) /\ StrAt w' fo fs /\ Below w11.heap.size w11 w') := Lh (by
       have h := lines52 n v pu cu es z wr.heap.size w11 HB11.out.size (HEVS.out.below HB11.out) HFV.out HZ.out; rw [show es.length = ts.length from HEL.out.symm] at h; refine h.mono ?_; rintro e w' ⟨u, rfl, h1, h2⟩; rw [<- HFS.out] at h1; have h3 : ((feedL n.data.toList v es z.data.toList).map str).length = fs.length := by rw [HFS.out]
       rw [List.length_map] at h3; rw [h3] at h1; rcases h1.2 with ⟨g1, g0⟩ | ⟨g, cap, cur, hv, hg, hgh, hlc, _⟩
       ·obtain ⟨p1, c1, g2⟩ := ownsRow_len h1; refine ⟨p1, c1, by rw [g2], ?_, h2⟩; intro i x hx; have := (List.getElem?_eq_some_iff.1 hx).1; omega
       ·refine ⟨_, cap, by rw [hv], ?_, h2⟩; intro i x hx; rw [hv] at h1; refine ⟨_, rfl, ?_⟩; rw [addr_at]; rw [h1.cellAt i (by have := (List.getElem?_eq_some_iff.1 hx).1; omega), List.getElem?_map, hx]; rfl)
      have cf0 := HSB.out.feed.c0; have cf1 := HSB.out.feed.c1; have cf2 := HSB.out.feed.c2; go_wp2_with fail; refine HWR.out.mono ?_; rintro e w12 ⟨fo, fc, rfl, HT2, hb12⟩; have HB12 := Lh (HB11.out.trans (hb12.mono HB11.out.size)); have HTT := Lh HT2; clear cf0 cf1 cf2 hb12 HT2 HWR HSB HB11; by_cases hlen : fs.length = xs.length
      rotate_left
      ·have hli : ((fs.length : Int) != xs.length) = true := by simp only [bne_iff_ne, ne_eq]; omega
       have hres := (HRS.out w12 HB12.out).1; have er0 := hres.fr 0; have er1 := hres.fr 1; have er2 := hres.fr 2; have ec0 := hres.c0; have ec1 := hres.c1; have ec2 := hres.c2; go_wp2_with fail; obtain ⟨Y, hY, hB, hE⟩ := exit26 hres (HRS.out w12 HB12.out).2 ⟨#[]⟩ 0 (.slice none 0 0); rw [<- hY]; clear hY hres er0 er1 er2 ec0 ec1 ec2; have rr0 := hB.c0; have rr1 := hB.c1; have rr2 := hB.c2; refine bodyPost_ret (v := .tuple #[.agg #[.string ⟨#[]⟩, .int .i64 0, .slice none 0 0], .int .i64 15]) (by simp [results, Tryz.results53, go_sem, rr0, rr1, rr2]) rfl ?_; exact .inl ⟨rfl, by rw [<- HRW.out]; exact hE, fun n2 v2 es2 h1 h2 h3 => hlen (by rw [HFS.out, <- h3]; have := h1; rw [<- HF.out, HFQ.out] at this; cases this; rfl)⟩
      have hli : ((fs.length : Int) != xs.length) = false := by simp only [bne_eq_false_iff_eq]; omega
      have hfx : fs.length <= 9223372036854775806 := by omega
      have HLN := Lh hlen; clear hlen; go_wp2_with fail; go_loopw [21] (fun iv wx => ∃ i q : Nat, iv = .int .i64 i /\ i <= fs.length /\ wx = w12.drewN q /\ Hid (∀ j, j < i -> fs[j]? = xs[j]?)) (fun iv _ => fs.length - (intOf iv).toNat)
      case atStart => exact ⟨0, 0, rfl, Nat.zero_le _, rfl, Lh (fun j h => absurd h (Nat.not_lt_zero _))⟩
      case round =>
       obtain ⟨i, q, rfl, hi2, rfl, HEQ⟩ := hrel; have HBQ := Lh (show Below wr.heap.size wr (w12.drewN q) from HB12.out.trans ⟨rfl, rfl, rfl, Nat.le_refl _, fun k hk => rfl⟩); have hrq := HRS.out _ HBQ.out; have HRQ := Lh hrq; have HSQ := Lh (HS.out.made HBQ.out); clear hrq; by_cases hlt : i < fs.length
       ·have hli2 : (i : Int) < fs.length := by omega
        have hi00 : (0 : Int) <= (i : Int) := by omega
        have HLX := Lh (show i < xs.length from by rw [<- HLN.out]; exact hlt); obtain ⟨fa, hfa⟩ : ∃ fa, fs[i]? = some fa := ⟨_, List.getElem?_eq_getElem hlt⟩
        obtain ⟨xa, hxa⟩ : ∃ xa, xs[i]? = some xa := ⟨_, List.getElem?_eq_getElem HLX.out⟩
        obtain ⟨a, rfl, hca⟩ := HTT.out i fa hfa; obtain ⟨b, rfl, hcb⟩ := HTX.out w12 HB12.out i xa hxa; have HFA := Lh hfa; have HXA := Lh hxa; have hix : (i : Int) < xs.length := by have := HLX.out; omega
        clear hfa hxa hlt; by_cases hne : fa = xa
        ·have hs1 := str_eq fa xa hne; have hs2 : (fa.toList != xa.toList) = false := by rw [bne, hs1]; rfl
         have HNE := Lh hne; clear hne; go_upto_region 37 with (fail); go_quiet (fail)
         go_wp2_with fail; go_roundw
         case rel => exact ⟨i + 1, _, by go_num, by omega, rfl, Lh (fun j hj => by
          rcases Nat.lt_or_ge j i with h | h
          ·exact HEQ.out j h
          ·obtain rfl : j = i := by omega
           rw [HFA.out, HXA.out, HNE.out])⟩
         case measure => simp [intOf]; omega
        ·have hs1 := str_ne fa xa hne; have hs2 : (fa.toList != xa.toList) = true := by rw [bne, hs1]; rfl
         have HNE := Lh hne; clear hne; go_upto_region 37 with (fail); go_quiet (fail)
         skip
         generalize hq2 : World.drewN _ _ = wz; have HBZ := Lh (show Below wr.heap.size wr wz from by rw [<- hq2]; exact HB12.out.trans ⟨rfl, rfl, rfl, Nat.le_refl _, fun k hk => rfl⟩); clear hq2; have hres := (HRS.out wz HBZ.out).1; have er0 := hres.fr 0; have er1 := hres.fr 1; have er2 := hres.fr 2; have ec0 := hres.c0; have ec1 := hres.c1; have ec2 := hres.c2; go_wp2_with fail; obtain ⟨Y, hY, hB, hE⟩ := exit26 hres (HRS.out wz HBZ.out).2 ⟨#[]⟩ 0 (.slice none 0 0); rw [<- hY]; clear hY hres er0 er1 er2 ec0 ec1 ec2; have rr0 := hB.c0; have rr1 := hB.c1; have rr2 := hB.c2; refine bodyPost_ret (v := .tuple #[.agg #[.string ⟨#[]⟩, .int .i64 0, .slice none 0 0], .int .i64 15]) (by simp [results, Tryz.results53, go_sem, rr0, rr1, rr2]) rfl ?_; exact .inl ⟨rfl, by rw [<- HRW.out]; exact hE, fun n2 v2 es2 h1 h2 h3 => HNE.out (by have h4 := h1; rw [<- HF.out, HFQ.out] at h4; cases h4; rw [<- HFS.out] at h3; have h5 := HFA.out; rw [h3, HXA.out] at h5; cases h5; rfl)⟩
       ·have hli2 : ¬ (i : Int) < fs.length := by omega
        have HALL := Lh (show fs = xs from List.ext_getElem? fun j => by
         rcases Nat.lt_or_ge j i with h | h
         ·exact HEQ.out j h
         ·rw [List.getElem?_eq_none (by omega), List.getElem?_eq_none (by have := HLN.out; omega)])
        have cf0 := HSQ.out.feed.c0; have cf1 := HSQ.out.feed.c1; have cf2 := HSQ.out.feed.c2; have hres := HRQ.out.1; have er0 := hres.fr 0; have er1 := hres.fr 1; have er2 := hres.fr 2; have ec0 := hres.c0; have ec1 := hres.c1; have ec2 := hres.c2; obtain ⟨wq, hwq⟩ : ∃ wq, wq = w12.drewN q := ⟨_, rfl⟩
        rw [<- hwq] at HBQ HRQ HSQ cf0 cf1 cf2 hres er0 er1 er2 ec0 ec1 ec2 ⊢; clear hwq; go_wp2_with fail; obtain ⟨Y, hY, hB, hE⟩ := exit26 hres HRQ.out.2 n v (.slice pu ts.length cu); have HTY := Lh (show RowT (P + 1) Y (.slice pu ts.length cu) ts from by rw [hY]; exact ((HSQ.out.row.set (show Blk R _ 26 wq from hres) (by decide) (by decide) 0 _).set (show Blk R _ 26 _ from hres.name) (by decide) (by decide) 1 _).set (show Blk R _ 26 _ from hres.name.rev) (by decide) (by decide) 2 _); rw [<- hY]; clear hY hres er0 er1 er2 ec0 ec1 ec2 cf0 cf1 cf2; have rr0 := hB.c0; have rr1 := hB.c1; have rr2 := hB.c2; refine bodyPost_ret (v := .tuple #[.agg #[.string n, .int .i64 v, .slice pu ts.length cu], .int .i64 0]) (by simp [results, Tryz.results53, go_sem, rr0, rr1, rr2]) rfl ?_; exact .inr ⟨n, v, pu, cu, ts, rfl, by rw [<- HES.out]; exact HFV.out, by rw [<- HES.out, <- HFS.out]; exact HALL.out, HTY.out.mono (by have := HRW.out; omega), by rw [<- HRW.out]; exact hE⟩
     ·have hq0 : (E != 0) = true := by simp [hE0]
      have HNE := Lh hE0; clear hE0; have hres := (HRS.out w11 HB11.out).1; have er0 := hres.fr 0; have er1 := hres.fr 1; have er2 := hres.fr 2; have ec0 := hres.c0; have ec1 := hres.c1; have ec2 := hres.c2; go_wp2_with fail; obtain ⟨Y, hY, hB, hE⟩ := exit26 hres (HRS.out w11 HB11.out).2 ⟨#[]⟩ 0 (.slice none 0 0); rw [<- hY]; clear hY hres er0 er1 er2 ec0 ec1 ec2; have rr0 := hB.c0; have rr1 := hB.c1; have rr2 := hB.c2; refine bodyPost_ret (v := .tuple #[.agg #[.string ⟨#[]⟩, .int .i64 0, .slice none 0 0], .int .i64 15]) (by simp [results, Tryz.results53, go_sem, rr0, rr1, rr2]) rfl ?_; exact .inl ⟨rfl, by rw [<- HRW.out]; exact hE, fun n2 v2 es2 h1 h2 h3 => HNE.out (by have h4 := h1; rw [<- HF.out, HFQ.out] at h4; cases h4; rw [HE2.out]; exact h2)⟩
theorem evB_valid {e : Ev} {v : Int} (hr : rightB e.uid.data.toList = true) (h : checkV e v = 0) : EvB e := by
 obtain ⟨-, -, h3, -, -, -, -, -, -, h4, h5⟩ := check_all h; obtain ⟨hh, -, -⟩ := (Tt.serV_zero e.days).1 h3; have hn := hh.n; have a := right_size hr; have b := lab_size h4; have c := lab_size h5; exact ⟨by omega, by omega, by omega, by omega, by omega⟩
theorem flat_many (z : List UInt8) : ∀ es : List Ev, es.length <= (es.flatMap fun e => evLines e z).length
 | [] => Nat.le_refl _
 | e :: r => by
  rw [List.flatMap_cons, List.length_append, List.length_cons]; have := flat_many z r; have h1 : 1 <= (evLines e z).length := by unfold evLines evA; simp only [List.length_append, List.length_cons]; omega
  omega
theorem runR_uniq {n : ByteArray} {v : Int} {es : List Ev} {z : List UInt8} {xs : List ByteArray} (h : feedV n v es = 0) (hx : (feedL n.data.toList v es z).map str = xs) : runR z xs.length xs (⟨#[]⟩, 0, []) = (n, v, es) := by
 have h1 : es.length + 6 <= xs.length := by
  rw [<- hx, List.length_map]; unfold feedL headL; have := flat_many z es; simp only [List.length_append, List.length_cons, List.length_nil]; omega
 have h2 := runR_feed h z xs.length h1; rwa [hx] at h2
def ParA (F : (ByteArray × Int × List Ev) × Int) (w : World) (x : Ending) (w' : World) : Prop :=
 ∃ (pu : Option Addr) (cu : Nat) (ts : List (Ev × Value × Value)), x = .returned (.tuple #[.agg #[.string F.1.1, .int .i64 F.1.2.1, .slice pu ts.length cu], .int .i64 F.2]) /\ ts.map (·.1) = F.1.2.2 /\ RowT w.heap.size w' (.slice pu ts.length cu) ts /\ Below w.heap.size w w'
theorem ParA.empty (c : Int) {w w' : World} (hb : Below w.heap.size w w') : ParA ((⟨#[]⟩, 0, []), c) w (.returned (.tuple #[.agg #[.string ⟨#[]⟩, .int .i64 0, .slice none 0 0], .int .i64 c])) w' :=
 ⟨none, 0, [], rfl, rfl, RowT.nil _ _, hb⟩
theorem big50 (s z : ByteArray) (w : World) (hs : 262144 < s.size) : Calls Tryz.prog 50 #[.string s, .string z] w fun e w' => e = .returned (.tuple #[.agg #[.string ⟨#[]⟩, .int .i64 0, .slice none 0 0], .int .i64 2]) /\ Below w.heap.size w w' := by
 obtain ⟨R, hR⟩ : ∃ R, R = w.heap.size := ⟨_, rfl⟩
 have L0 : Below R w (w.alloc (.cells #[.string ⟨#[]⟩, .int .i64 0, .slice none 0 0] 26)) := by rw [hR]; exact below_box w _
 have R0 : FeedB R ⟨#[]⟩ 0 (.slice none 0 0) (w.alloc (.cells #[.string ⟨#[]⟩, .int .i64 0, .slice none 0 0] 26)) := by rw [hR]; exact heap_alloc_new w _
 obtain ⟨W0, hW0⟩ : ∃ W0, W0 = w.alloc (.cells #[.string ⟨#[]⟩, .int .i64 0, .slice none 0 0] 26) := ⟨_, rfl⟩
 rw [<- hW0] at L0 R0; have HRW := Lh hR; have hsi : (262144 : Int) < (s.size : Int) := by omega
 clear hs; go_enter Tryz.func50, Tryz.ntmps50; go_upto_region 1 with (fail); rw [<- hW0, <- hR]; clear hW0 hR; have hres := R0; have er0 := hres.fr 0; have er1 := hres.fr 1; have er2 := hres.fr 2; have ec0 := hres.c0; have ec1 := hres.c1; have ec2 := hres.c2; go_wp2_with fail; obtain ⟨Y, hY, hB, hE⟩ := exit26 hres L0 ⟨#[]⟩ 0 (.slice none 0 0); rw [<- hY]; clear hY hres er0 er1 er2 ec0 ec1 ec2; have rr0 := hB.c0; have rr1 := hB.c1; have rr2 := hB.c2; refine bodyPost_ret (v := .tuple #[.agg #[.string ⟨#[]⟩, .int .i64 0, .slice none 0 0], .int .i64 2]) (by simp [results, Tryz.results50, go_sem, rr0, rr1, rr2]) rfl ?_; exact ⟨rfl, by rw [<- HRW.out]; exact hE⟩
theorem none50 (s z : ByteArray) (m : Int) (w : World) (hs : s.size <= 262144) (hzc : Tt.code z.data.toList = true) (hu : Tt.unf s.data.toList = none) (hm : w.cell? ⟨0, 0, none⟩ = some (.int .i64 m)) (h0 : 0 < w.heap.size) : Calls Tryz.prog 50 #[.string s, .string z] w fun e w' => e = .returned (.tuple #[.agg #[.string ⟨#[]⟩, .int .i64 0, .slice none 0 0], .int .i64 4]) /\ Below w.heap.size w w' := by
 obtain ⟨R, hR⟩ : ∃ R, R = w.heap.size := ⟨_, rfl⟩
 have L0 : Below R w (w.alloc (.cells #[.string ⟨#[]⟩, .int .i64 0, .slice none 0 0] 26)) := by rw [hR]; exact below_box w _
 have R0 : FeedB R ⟨#[]⟩ 0 (.slice none 0 0) (w.alloc (.cells #[.string ⟨#[]⟩, .int .i64 0, .slice none 0 0] 26)) := by rw [hR]; exact heap_alloc_new w _
 obtain ⟨W0, hW0⟩ : ∃ W0, W0 = w.alloc (.cells #[.string ⟨#[]⟩, .int .i64 0, .slice none 0 0] 26) := ⟨_, rfl⟩
 rw [<- hW0] at L0 R0; have HRW := Lh hR; have HZ := Lh hzc; have HU := Lh hu; have hsi : ¬ ((262144 : Int) < (s.size : Int)) := by omega
 have hm0 := (L0.cell (p := ⟨0, 0, none⟩) (show 0 < R by omega)).trans hm; have HM := Lh hm0; clear hm hm0; clear hzc hu; go_enter Tryz.func50, Tryz.ntmps50; go_upto_region 1 with (fail); rw [<- hW0, <- hR]; clear hW0 hR; go_wp2_with fail; refine (code_any _ _).mono ?_; rintro q1 w1 ⟨rfl, hx⟩; rw [hx, HZ.out]; clear hx w1; go_wp2_with fail; refine (unfold_any s (by omega) _ m HM.out).mono ?_; rintro e w1 ⟨hU, hb1⟩; rcases hU with ⟨-, rfl⟩ | ⟨g, cap, ys, h1, -⟩
 rotate_left
 ·rw [HU.out] at h1; cases h1
 have L0 := L0.trans (hb1.mono (Nat.le_of_lt R0.lt)); have R0 := R0.block (hb1.block R R0.lt); clear hb1; have hres := R0; have er0 := hres.fr 0; have er1 := hres.fr 1; have er2 := hres.fr 2; have ec0 := hres.c0; have ec1 := hres.c1; have ec2 := hres.c2; go_wp2_with fail; obtain ⟨Y, hY, hB, hE⟩ := exit26 hres L0 ⟨#[]⟩ 0 (.slice none 0 0); rw [<- hY]; clear hY hres er0 er1 er2 ec0 ec1 ec2; have rr0 := hB.c0; have rr1 := hB.c1; have rr2 := hB.c2; refine bodyPost_ret (v := .tuple #[.agg #[.string ⟨#[]⟩, .int .i64 0, .slice none 0 0], .int .i64 4]) (by simp [results, Tryz.results50, go_sem, rr0, rr1, rr2]) rfl ?_; exact ⟨rfl, by rw [<- HRW.out]; exact hE⟩
theorem big53 (s z : ByteArray) (w : World) (hs : 262144 < s.size) : Calls Tryz.prog 53 #[.string s, .string z] w fun e w' => e = .returned (.tuple #[.agg #[.string ⟨#[]⟩, .int .i64 0, .slice none 0 0], .int .i64 2]) /\ Below w.heap.size w w' := by
 obtain ⟨R, hR⟩ : ∃ R, R = w.heap.size := ⟨_, rfl⟩
 have L0 : Below R w (w.alloc (.cells #[.string ⟨#[]⟩, .int .i64 0, .slice none 0 0] 26)) := by rw [hR]; exact below_box w _
 have R0 : FeedB R ⟨#[]⟩ 0 (.slice none 0 0) (w.alloc (.cells #[.string ⟨#[]⟩, .int .i64 0, .slice none 0 0] 26)) := by rw [hR]; exact heap_alloc_new w _
 obtain ⟨W0, hW0⟩ : ∃ W0, W0 = w.alloc (.cells #[.string ⟨#[]⟩, .int .i64 0, .slice none 0 0] 26) := ⟨_, rfl⟩
 rw [<- hW0] at L0 R0; have HRW := Lh hR; have hsi : (262144 : Int) < (s.size : Int) := by omega
 clear hs; go_enter Tryz.func53, Tryz.ntmps53; go_upto_region 1 with (fail); rw [<- hW0, <- hR]; clear hW0 hR; have hres := R0; have er0 := hres.fr 0; have er1 := hres.fr 1; have er2 := hres.fr 2; have ec0 := hres.c0; have ec1 := hres.c1; have ec2 := hres.c2; go_wp2_with fail; obtain ⟨Y, hY, hB, hE⟩ := exit26 hres L0 ⟨#[]⟩ 0 (.slice none 0 0); rw [<- hY]; clear hY hres er0 er1 er2 ec0 ec1 ec2; have rr0 := hB.c0; have rr1 := hB.c1; have rr2 := hB.c2; refine bodyPost_ret (v := .tuple #[.agg #[.string ⟨#[]⟩, .int .i64 0, .slice none 0 0], .int .i64 2]) (by simp [results, Tryz.results53, go_sem, rr0, rr1, rr2]) rfl ?_; exact ⟨rfl, by rw [<- HRW.out]; exact hE⟩
theorem none53 (s z : ByteArray) (w : World) (hs : s.size <= 262144) (hzc : Tt.code z.data.toList = true) (hu : Tt.unf s.data.toList = none) : Calls Tryz.prog 53 #[.string s, .string z] w fun e w' => e = .returned (.tuple #[.agg #[.string ⟨#[]⟩, .int .i64 0, .slice none 0 0], .int .i64 4]) /\ Below w.heap.size w w' := by
 obtain ⟨R, hR⟩ : ∃ R, R = w.heap.size := ⟨_, rfl⟩
 have L0 : Below R w (w.alloc (.cells #[.string ⟨#[]⟩, .int .i64 0, .slice none 0 0] 26)) := by rw [hR]; exact below_box w _
 have R0 : FeedB R ⟨#[]⟩ 0 (.slice none 0 0) (w.alloc (.cells #[.string ⟨#[]⟩, .int .i64 0, .slice none 0 0] 26)) := by rw [hR]; exact heap_alloc_new w _
 obtain ⟨W0, hW0⟩ : ∃ W0, W0 = w.alloc (.cells #[.string ⟨#[]⟩, .int .i64 0, .slice none 0 0] 26) := ⟨_, rfl⟩
 rw [<- hW0] at L0 R0; have HRW := Lh hR; have HZ := Lh hzc; have HU := Lh hu; have hsi : ¬ ((262144 : Int) < (s.size : Int)) := by omega
 clear hzc hu; go_enter Tryz.func53, Tryz.ntmps53; go_upto_region 1 with (fail); rw [<- hW0, <- hR]; clear hW0 hR; go_wp2_with fail; refine (code97 _ _).mono ?_; rintro q1 w1 ⟨rfl, hx⟩; rw [hx, HZ.out]; clear hx w1; go_wp2_with fail; refine (refUnfold_any s (by omega) _).mono ?_; rintro e w1 ⟨hU, hb1⟩; rcases hU with ⟨-, rfl⟩ | ⟨g, cap, ys, h1, -⟩
 rotate_left
 ·rw [HU.out] at h1; cases h1
 have L0 := L0.trans (hb1.mono (Nat.le_of_lt R0.lt)); have R0 := R0.block (hb1.block R R0.lt); clear hb1; have hres := R0; have er0 := hres.fr 0; have er1 := hres.fr 1; have er2 := hres.fr 2; have ec0 := hres.c0; have ec1 := hres.c1; have ec2 := hres.c2; go_wp2_with fail; obtain ⟨Y, hY, hB, hE⟩ := exit26 hres L0 ⟨#[]⟩ 0 (.slice none 0 0); rw [<- hY]; clear hY hres er0 er1 er2 ec0 ec1 ec2; have rr0 := hB.c0; have rr1 := hB.c1; have rr2 := hB.c2; refine bodyPost_ret (v := .tuple #[.agg #[.string ⟨#[]⟩, .int .i64 0, .slice none 0 0], .int .i64 4]) (by simp [results, Tryz.results53, go_sem, rr0, rr1, rr2]) rfl ?_; exact ⟨rfl, by rw [<- HRW.out]; exact hE⟩
theorem both (s z : ByteArray) (hz : Tt.code z.data.toList = true) : ∃ F : (ByteArray × Int × List Ev) × Int, F.1.2.2.length <= 256 /\
  (∀ (w : World) (m : Int), w.cell? ⟨0, 0, none⟩ = some (.int .i64 m) -> Lens w -> Errs w -> Pow w -> 6 < w.heap.size -> Calls Tryz.prog 50 #[.string s, .string z] w (ParA F w)) /\
  (∀ w : World, Calls Tryz.prog 53 #[.string s, .string z] w (ParA F w)) := by
 by_cases hs : s.size <= 262144
 ·cases hu : Tt.unf s.data.toList with
  | none => exact ⟨((⟨#[]⟩, 0, []), 4), by simp, fun w m hm hL hE hP h6 => (none50 s z m w hs hz hu hm (by omega)).mono fun e w' h => by rw [h.1]; exact ParA.empty 4 h.2, fun w => (none53 s z w hs hz hu).mono fun e w' h => by rw [h.1]; exact ParA.empty 4 h.2⟩
  | some ls =>
   obtain ⟨xs, hxs⟩ : ∃ xs, xs = keepX (ls.map str) := ⟨_, rfl⟩
   obtain ⟨n, v, es, hF⟩ : ∃ n v es, runR z.data.toList xs.length xs (⟨#[]⟩, 0, []) = (n, v, es) := ⟨_, _, _, rfl⟩
   by_cases hV : feedV n v es = 0 /\ (feedL n.data.toList v es z.data.toList).map str = xs
   ·obtain ⟨hv0, hv1, hel, hev⟩ := feedV_ok hV.1; refine ⟨((n, v, es), 0), hel, fun w m hm hL hE hP h6 => ?_, fun w => ?_⟩
    ·refine (parse50X s n z v m es ls w hs hV.1 hz (fun e he => by have h := evsV_each v es Option.none hev e he; exact evB_valid h.1 h.2) hu (by rw [<- hxs]; exact hV.2.symm) hm hL hP h6).mono ?_; rintro e w' ⟨pu, cu, ts, hts, rfl, hr, hb⟩; exact ⟨pu, cu, ts, rfl, hts, hr, hb⟩
    ·refine (parse53 s z ls w hs hz hu).mono ?_; rw [<- hxs]; rintro e w' (⟨rfl, hb, hno⟩ | ⟨n2, v2, pu, cu, ts, rfl, h1, h2, hr, hb⟩)
     ·exact absurd hV.2 (hno n v es hF hV.1)
     ·have h3 := runR_uniq h1 h2; rw [hF] at h3; cases h3; exact ⟨pu, cu, ts, rfl, rfl, hr, hb⟩
   ·refine ⟨((⟨#[]⟩, 0, []), 15), by simp, fun w m hm hL hE hP h6 => ?_, fun w => ?_⟩
    ·refine (parse50L s z m ls w hs hz hu hm hL hE hP h6).mono ?_; rw [<- hxs]; rintro e w' (⟨rfl, hb⟩ | ⟨n2, v2, pu, cu, ts, rfl, h1, h2, hr, hb⟩)
     ·exact ParA.empty 15 hb
     ·have h3 := runR_uniq h1 h2; rw [hF] at h3; cases h3; exact absurd ⟨h1, h2⟩ hV
    ·refine (parse53 s z ls w hs hz hu).mono ?_; rw [<- hxs]; rintro e w' (⟨rfl, hb, hno⟩ | ⟨n2, v2, pu, cu, ts, rfl, h1, h2, hr, hb⟩)
     ·exact ParA.empty 15 hb
     ·have h3 := runR_uniq h1 h2; rw [hF] at h3; cases h3; exact absurd ⟨h1, h2⟩ hV
 ·exact ⟨((⟨#[]⟩, 0, []), 2), by simp, fun w m hm hL hE hP h6 => (big50 s z w (by omega)).mono fun e w' h => by rw [h.1]; exact ParA.empty 2 h.2, fun w => (big53 s z w (by omega)).mono fun e w' h => by rw [h.1]; exact ParA.empty 2 h.2⟩
end Go.Proofs.YtageielcdebjlaaGreatDoor
