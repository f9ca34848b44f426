/- timetablelaw40.short over one event: its contract: an answer. timetableref17.SameInts: its contract. The law's awake: its contract. FeedTexts: the walk. timetablelaw40.short over any feed: its contract: an answer. timetableref40.Same: whether two feeds are equal. timetableref40.Fold: its contract. The reference's Format for every feed: its contract. Plain facts: a drawn feed is valid; what merging makes of a valid feed in a reader without events, and of a feed that is not newer. No function of the program in sight. Condition: none. FeedReads: the walk of the law. What a row's condition says of the laid tables: the lengths of months and the powers of ten. -/
import Derived.Test.YtageielcdebjlaaGreatDoorGenF
import Derived.Test.YtageielcdebjlaaGreatDoorPk13
import Derived.Test.YtageielcdebjlaaGreatDoorPk14
import Derived.Test.YtageielcdebjlaaGreatDoorPk1
import Derived.Test.YtageielcdebjlaaGreatDoorDaysAll
import Derived.Test.YtageielcdebjlaaGreatDoorPk6
import Derived.Test.YtageielcdebjlaaGreatDoorPk11
import Derived.Test.YtageielcdebjlaaGreatDoorParseAll
import Derived.Test.YtageielcdebjlaaGreatDoorUnfoldAll
import Derived.Test.YtageielcdebjlaaGreatDoorRefL
import Derived.Test.YtageielcdebjlaaGreatDoorPk27
import Derived.Test.YtageielcdebjlaaGreatDoorPk25
import Derived.Test.YtageielcdebjlaaGreatDoorPk16
import Derived.Test.YtageielcdebjlaaGreatDoorPk15
import Derived.Test.YtageielcdebjlaaGreatDoorPk5
import Derived.Lib.LaidTab
import Derived.MakeChecks
set_option maxRecDepth 100000
set_option maxHeartbeats 40000000
-- Short
namespace Go.Proofs.YtageielcdebjlaaGreatDoor
open Go.RowKit
end Go.Proofs.YtageielcdebjlaaGreatDoor
-- Law10a
namespace Go.Proofs.YtageielcdebjlaaGreatDoor
open Go.RowKit
end Go.Proofs.YtageielcdebjlaaGreatDoor
-- Awake
namespace Go.Proofs.YtageielcdebjlaaGreatDoor
open Go.RowKit
def nA : ByteArray := ⟨#[97]⟩
def nZ : ByteArray := ⟨#[122]⟩
def awakeText : List UInt8 := [66, 69, 71, 73, 78, 58, 86, 67, 65, 76, 69, 78, 68, 65, 82, 13, 10, 86, 69, 82, 83, 73, 79, 78, 58, 50, 46, 48, 13, 10, 80, 82, 79, 68, 73, 68, 58, 45, 47, 47, 116, 105, 109, 101, 116, 97, 98, 108, 101, 47, 47, 69, 78, 13, 10, 78, 65, 77, 69, 58, 97, 13, 10, 82, 69, 86, 73, 83, 73, 79, 78, 58, 48, 13, 10, 69, 78, 68, 58, 86, 67, 65, 76, 69, 78, 68, 65, 82, 13, 10]
theorem dig0 : Lib.decDigits 0 = [48] := by unfold Lib.decDigits; simp
theorem atoi0 : Lib.atoi (Lib.decDigits 0) = some ((0 : Nat) : Int) := by rw [dig0]; decide
theorem codeA : Tt.code nA.data.toList = true := by decide
theorem codeZ : Tt.code nZ.data.toList = true := by decide
theorem folds0 : (lines0 nA 0).flatMap (fun l => Tt.fold l.data.toList) = awakeText := by
 unfold lines0; rw [dig0]; decide
theorem unf0 : Tt.unf awakeText = some ((lines0 nA 0).map (·.data.toList)) := by
 unfold lines0; rw [dig0]; decide
theorem sizes0 : ∀ x ∈ lines0 nA 0, x.size <= 100000 := by
 unfold lines0; rw [dig0]; intro x hx; simp only [List.mem_cons, List.not_mem_nil, or_false] at hx; rcases hx with rfl | rfl | rfl | rfl | rfl | rfl
 all_goals decide
theorem esc0 : Tt.esc [97, 44, 98] = [97, 92, 44, 98] := by decide
theorem format_awake (w : World) : Calls Tryz.prog 48 #[.agg #[.string nA, .int .i64 0, .slice none 0 0], .string nZ] w fun e w' => e = .returned (.tuple #[.string (str awakeText), .int .i64 0]) /\ Below w.heap.size w w' := by
 have := format_none nA nZ 0 codeA codeZ (by decide) (by decide) (by rw [dig0]; decide) sizes0 (by rw [folds0]; decide) w; rw [folds0] at this; exact this
theorem parse_awake (w : World) (m : Int) (hm : w.cell? ⟨0, 0, none⟩ = some (.int .i64 m)) (h0 : 0 < w.heap.size) : Calls Tryz.prog 50 #[.string (str awakeText), .string nZ] w fun e w' => e = .returned (.tuple #[.agg #[.string nA, .int .i64 0, .slice none 0 0], .int .i64 0]) /\ Below w.heap.size w w' :=
 parse_none (str awakeText) nA nZ 0 (by decide) codeA codeZ (by decide) (by decide) (by rw [dig0]; decide) atoi0 unf0 w m hm h0
theorem escape_awake (w : World) : Calls Tryz.prog 39 #[.string ⟨#[97, 44, 98]⟩] w fun e w' => e = .returned (.string ⟨#[97, 92, 44, 98]⟩) /\ Below w.heap.size w w' := by
 have := escape_any ⟨#[97, 44, 98]⟩ w (by decide); refine this.mono ?_; rintro e w' ⟨h1, h2⟩; refine ⟨?_, h2⟩; rw [h1]; exact ret_str esc0
theorem awakeText_list : ((str awakeText).toList == awakeText) = true := by rw [Lib.toList_data]; exact beq_self_eq_true _
theorem nA_list : (nA.toList == [97]) = true := by rw [Lib.toList_data]; decide
theorem awake_any (w : World) (m : Int) (hm : w.cell? ⟨0, 0, none⟩ = some (.int .i64 m)) (h0 : 0 < w.heap.size) :
  Calls Tryz.prog 33 #[] w fun e w' => e = .returned (.bool true) /\ Below w.heap.size w w' := by
 go_enter Tryz.func33, Tryz.ntmps33; go_wp2_with fail; refine (format_awake w).mono ?_; rintro e w1 ⟨rfl, hb1⟩; have hm1 := (hb1.cell (p := ⟨0, 0, none⟩) h0).trans hm; have h01 : 0 < w1.heap.size := Nat.lt_of_lt_of_le h0 hb1.size; have s1 := hb1.size; clear hm; go_wp2_with fail; refine (parse_awake w1 m hm1 h01).mono ?_; rintro e w2 ⟨rfl, hb2⟩; have s2 := hb2.size; have hA := nA_list; go_wp2_with fail; refine (escape_awake _).mono ?_; rintro e w3 ⟨rfl, hb3⟩; go_wp2_with fail; go_ret; refine ⟨?_, ?_⟩
 ·show Ending.returned (.bool ((str awakeText).toList == awakeText)) = _
  rw [awakeText_list]
 ·exact (((hb1.trans (hb2.mono s1)).alloc (by omega) _).trans (hb3.mono (by simp; omega)))
end Go.Proofs.YtageielcdebjlaaGreatDoor
-- Law7
namespace Go.Proofs.YtageielcdebjlaaGreatDoor
open Go.RowKit
def Nums (w : World) (ao : Option Addr) (len : Nat) : Prop := ∀ i, i < len -> ∃ a n, ao = some a /\ a.block < w.heap.size /\ w.cell? (a.add i) = some (.int .i64 n) /\ -9223372036854775808 <= n /\ n <= 9223372036854775807
theorem light_any (ao : Option Addr) (len cap : Nat) (w : World) :
  Calls Tryz.prog 15 #[.slice ao len cap] w fun e w' => e = .returned (.bool (decide ((len : Int) <= 400))) /\ w' = w := by
 go_enter Tryz.func15, Tryz.ntmps15; go_wp2_with fail; go_ret; exact ⟨rfl, rfl⟩
theorem roll_any (ao : Option Addr) (len cap : Nat) (w : World) (hl : len <= 400) (hn : Nums w ao len) :
  Calls Tryz.prog 18 #[.slice ao len cap] w fun e w' => e = .returned (.pointer (some ⟨w.heap.size, 0, none⟩)) /\ Dice w.heap.size w' /\ Below w.heap.size w w' /\ w.heap.size + 1 <= w'.heap.size := by
 go_enter Tryz.func18, Tryz.ntmps18; go_wp2_with fail; go_ret; have hb : Below w.heap.size w (w.alloc (.cells #[.slice ao len cap, .int .i64 0] 124)) := (Below.refl _ w).alloc (Nat.le_refl _) _; refine ⟨rfl, ⟨ao, len, cap, 0, ⟨heap_alloc_new w _, Nat.zero_le _, hl, fun i hi => ?_⟩⟩, hb, by simp⟩; obtain ⟨a, n, ha, hlt, hc, hn⟩ := hn i hi; exact ⟨a, n, ha, hlt, (hb.cell (p := a.add i) (by rw [addr_add_block]; omega)).trans hc, hn⟩
theorem same51 (n m : ByteArray) (u v : Int) (xs ys : List Ev) (ao bo : Option Addr) (c d : Nat) (w : World) (hX : Evs w.heap.size w ao xs) (hY : Evs w.heap.size w bo ys) (hn : xs.length <= 4611686018427387903) (he : n = m /\ u = v /\ xs = ys) :
  Calls Tryz.prog 51 #[.agg #[.string n, .int .i64 u, .slice ao xs.length c], .agg #[.string m, .int .i64 v, .slice bo ys.length d]] w fun e w' => e = .returned (.bool true) /\ Below w.heap.size w w' := by
 obtain ⟨rfl, rfl, rfl⟩ := he; obtain ⟨l, hl⟩ : ∃ l, l = xs.length := ⟨_, rfl⟩
 obtain ⟨W, hW⟩ : ∃ W, W = (w.alloc (.cells #[.string n, .int .i64 u, .slice ao l c] 26)).alloc (.cells #[.string n, .int .i64 u, .slice bo l d] 26) := ⟨_, rfl⟩
 have HA := Lh (show Blk w.heap.size #[.string n, .int .i64 u, .slice ao l c] 26 W from by rw [hW]; exact (Blk.new w _ _).alloc _); have HB := Lh (show Blk (w.heap.size + 1) #[.string n, .int .i64 u, .slice bo l d] 26 W from by rw [hW]; exact Blk.new' (g := w.heap.size + 1) _ _ _ (by simp)); have HL := Lh (show Below w.heap.size w W from by rw [hW]; exact (below_box w _).alloc (by simp) _); have HC : Hid (Calls Tryz.prog 65 #[.slice ao l c, .slice bo l d] W fun e w' => e = .returned (.bool true) /\ Below W.heap.size W w') := Lh (by
  have h := sameevs65 xs xs ao bo c d w.heap.size W HL.out.size (hX.below HL.out) (hY.below HL.out) hn; rw [decide_eq_true (p := xs = xs) rfl, <- hl] at h; exact h)
 rw [<- hl] at hn ⊢; clear hX hY hl; have a0 : W.cell? ⟨w.heap.size, 0, none⟩ = some (.string n) := HA.out.cell 0; have a1 : W.cell? ⟨w.heap.size, 1, none⟩ = some (.int .i64 u) := HA.out.cell 1; have a2 : W.cell? ⟨w.heap.size, 2, none⟩ = some (.slice ao l c) := HA.out.cell 2; have b0 : W.cell? ⟨w.heap.size + 1, 0, none⟩ = some (.string n) := HB.out.cell 0; have b1 : W.cell? ⟨w.heap.size + 1, 1, none⟩ = some (.int .i64 u) := HB.out.cell 1; have b2 : W.cell? ⟨w.heap.size + 1, 2, none⟩ = some (.slice bo l d) := HB.out.cell 2; go_enter Tryz.func51, Tryz.ntmps51; go_upto_region 1 with (fail); rw [<- hW]; clear hW; go_wp2_with fail; refine HC.out.mono ?_; rintro e w1 ⟨rfl, hb⟩; go_wp2_with fail; go_ret; exact ⟨rfl, HL.out.trans (hb.mono HL.out.size)⟩
theorem refFold_any (s : ByteArray) (w : World) (hs : s.size <= 17592186044416) :
  Calls Tryz.prog 42 #[.string s] w fun e w' => e = .returned (.string ⟨(Tt.fold s.data.toList).toArray⟩) /\ w' = w := by
 have HS := Lh (Lib.size_eq s); by_cases hlen : s.size <= 75
 ·have hst := Lh (Tt.foldGo_end s.data.toList.length 75 s.data.toList (by rw [<- HS.out]; omega)); have hli : (s.size : Int) <= 75 := by omega
  go_enter Tryz.func42, Tryz.ntmps42; go_wp2_with fail; go_ret; refine ⟨?_, rfl⟩; have e : (⟨(Tt.fold s.data.toList).toArray⟩ : ByteArray) = s ++ ⟨#[13, 10]⟩ := by
   rw [<- Lib.mk_data (s ++ ⟨#[13, 10]⟩), bs_app]; show (⟨(Tt.foldGo s.data.toList.length 75 s.data.toList).toArray⟩ : ByteArray) = _
   rw [hst.out]
  rw [e]; rfl
 ·have hst := Lh (Tt.foldGo_step s.data.toList.length 75 s.data.toList (by omega) (Nat.le_refl _) (by rw [<- HS.out]; omega)); have hli : ¬ (s.size : Int) <= 75 := by omega
  have hl2 : (75 : Int) <= (s.size : Int) := by omega
  have hex1 : (s.extract 0 75).size = 75 := bs_extract_size s 0 75 (by omega); have hex2 : (s.extract 75 s.size).size = s.size - 75 := bs_extract_size s 75 s.size (Nat.le_refl _); have H1 := Lh hex1; have H2 := Lh hex2; clear hex1 hex2; go_enter Tryz.func42, Tryz.ntmps42; go_wp2_with fail; go_loopw [3, 4] (fun tv rv wr => ∃ (T R : ByteArray), tv = .string T /\ rv = .string R /\ wr = w /\ R.size <= s.size /\ T.size + 4 * R.size <= 4 * s.size /\ Hid (T.data.toList ++ [32] ++ Tt.foldGo R.data.toList.length 74 R.data.toList = Tt.fold s.data.toList)) (fun _ rv _ => match rv with | .string t => t.size | _ => 0)
  case atStart =>
   refine ⟨_, _, rfl, rfl, rfl, by rw [H2.out]; omega, by rw [bs_size, H1.out, H2.out]; show 75 + 2 + _ <= _; omega, ?_⟩; show _ = Tt.foldGo s.data.toList.length 75 s.data.toList
   rw [hst.out, bs_app, Lib.extract_from_zero, Lib.extract_to_end]; simp
  case round =>
   obtain ⟨T, R, rfl, rfl, rfl, hR, hT, HU⟩ := hrel; have HR := Lh (Lib.size_eq R); by_cases hlt : 74 < R.size
   ·have hs2 := Lh (Tt.foldGo_step R.data.toList.length 74 R.data.toList (by omega) (Nat.le_refl _) (by rw [<- HR.out]; exact hlt)); have hri : (74 : Int) < (R.size : Int) := by omega
    have hri2 : (74 : Int) <= (R.size : Int) := by omega
    have K1 := Lh (bs_extract_size R 0 74 (by omega)); have K2 := Lh (bs_extract_size R 74 R.size (Nat.le_refl _)); go_wp2_with fail; go_roundw
    case rel =>
     refine ⟨_, _, rfl, rfl, by first | rfl | trivial, by rw [K2.out]; omega, by rw [bs_size, bs_size, bs_size, K1.out, K2.out]; show T.size + (1 + (74 - 0) + 2) + _ <= _; omega, ?_⟩; show _ = _
     rw [<- HU.out, hs2.out, bs_app, bs_app, bs_app, Lib.extract_from_zero, Lib.extract_to_end]; simp
    case measure => simp [bs_extract_size R 74 R.size]; omega
   ·have hs2 := Lh (Tt.foldGo_end R.data.toList.length 74 R.data.toList (by rw [<- HR.out]; exact hlt)); have hri : ¬ (74 : Int) < (R.size : Int) := by omega
    go_wp2_with fail; go_ret; refine ⟨?_, rfl⟩; have e : (⟨(Tt.fold s.data.toList).toArray⟩ : ByteArray) = T ++ ⟨#[32]⟩ ++ R ++ ⟨#[13, 10]⟩ := by
     rw [<- Lib.mk_data (T ++ ⟨#[32]⟩ ++ R ++ ⟨#[13, 10]⟩), bs_app, bs_app, bs_app, <- HU.out, hs2.out]; simp
    rw [e]; rfl
theorem StrAt.below {w w' : World} {u : Value} {g c k : Nat} {xs : List ByteArray} {lo : Nat} (h : w.ownsRow lo 9 1 u k (xs.map Value.string)) (hu : u = .slice (some ⟨g, 0, none⟩) k c) (hw : Below w.heap.size w w') : ∀ j x, xs[j]? = some x -> w'.cell? ⟨g, j, none⟩ = some (.string x) := by
 intro j x hj; have := (ownsRow_below h hw).cells (g := g) (by rw [hu]; rfl) j (.string x) (by rw [List.getElem?_map, hj]; rfl); rw [Addr.add_lit, Nat.zero_add] at this; exact this
theorem format49 (n : ByteArray) (v : Int) (af : Option Addr) (cf : Nat) (es : List Ev) (z : ByteArray) (BB : Nat) (w : World) (hBB : BB <= w.heap.size) (hE : Evs BB w af es) (hn : es.length <= 4611686018427387903) :
  Calls Tryz.prog 49 #[.agg #[.string n, .int .i64 v, .slice af es.length cf], .string z] w fun e w' => e = .returned (.tuple #[.string (str (formatV n v es z).1), .int .i64 (formatV n v es z).2]) /\ Below w.heap.size w w' := by
 obtain ⟨W0, hW0⟩ : ∃ W0, W0 = w.alloc (.cells #[.string n, .int .i64 v, .slice af es.length cf] 26) := ⟨_, rfl⟩
 have F0 := Lh (show FeedAt w.heap.size n v (.slice af es.length cf) W0 from by rw [hW0]; exact alloc3 n v _ w); have L0 := Lh (show Below w.heap.size w W0 from by rw [hW0]; exact below_box w _); have s0 : w.heap.size + 1 <= W0.heap.size := by rw [hW0]; simp
 have HE0 := Lh (hE.below (L0.out.mono hBB)); have HV := Lh (valid47 n v es af cf BB W0 (by omega) HE0.out hn); have HR : Hid (formatV n v es z = if feedV n v es ≠ 0 then ([], feedV n v es) else if Tt.code z.data.toList = false then ([], 10) else if 262144 < ((feedT n.data.toList v es z.data.toList).length : Int) then ([], 2) else (feedT n.data.toList v es z.data.toList, 0)) := rfl; have HWR : Hid (∀ W : World, Below W0.heap.size W0 W -> feedV n v es = 0 -> Tt.code z.data.toList = true -> Calls Tryz.prog 52 #[.agg #[.string n, .int .i64 v, .slice af es.length cf], .string z] W fun e w' => ∃ u, e = .returned u /\ w'.ownsRow W.heap.size 9 1 u (feedL n.data.toList v es z.data.toList).length (((feedL n.data.toList v es z.data.toList).map str).map Value.string) /\ Below W.heap.size W w') := Lh (fun W hW hv hz => lines52 n v af cf es z BB W (by have := hW.size; omega) (HE0.out.below (hW.mono (by omega))) hv hz); obtain ⟨m, hmm⟩ : ∃ m, m = es.length := ⟨_, rfl⟩
 rw [<- hmm] at hW0 F0 HV HWR ⊢; obtain ⟨F, hF⟩ : ∃ F, F = w.heap.size := ⟨_, rfl⟩
 rw [<- hF] at F0; have hFW : F < W0.heap.size := by omega
 have f0 := F0.out.c0; have f1 := F0.out.c1; have f2 := F0.out.c2; clear hmm hE hn HE0; go_enter Tryz.func49, Tryz.ntmps49; go_upto_region 1 with (fail); rw [<- hW0, <- hF]; clear hW0 hF; go_wp2_with fail; refine HV.out.mono ?_; rintro e w1 ⟨rfl, hb1⟩; have F1 := Lh (F0.out.below hb1 hFW); have L1 := Lh (L0.out.trans (hb1.mono (by omega))); have HB1 := Lh hb1; have s1 : w.heap.size + 1 <= w1.heap.size := Nat.le_trans s0 hb1.size; clear f0 f1 f2 hb1 HV F0 L0; obtain ⟨fv, hfv⟩ : ∃ fv, fv = feedV n v es := ⟨_, rfl⟩
 rw [<- hfv]; have HFV := Lh hfv; clear hfv; by_cases hz0 : fv = 0
 ·have HV0 := Lh (HFV.out.symm.trans hz0); subst hz0; go_wp2_with fail; refine (code97 _ _).mono ?_; rintro e w1' ⟨rfl, hw⟩; rw [hw]; clear hw w1'; cases hz : Tt.code z.data.toList
  ·have HX := Lh (show formatV n v es z = ([], 10) from by rw [HR.out, if_neg (by rw [HV0.out]; decide), if_pos hz]); go_wp2_with fail; go_ret2; exact ⟨by rw [HX.out]; rfl, L1.out⟩
  ·have HX := Lh (show formatV n v es z = if 262144 < ((feedT n.data.toList v es z.data.toList).length : Int) then ([], 2) else (feedT n.data.toList v es z.data.toList, 0) from by rw [HR.out, if_neg (by rw [HV0.out]; decide), if_neg (by rw [hz]; decide)]); have HLI := Lh (feedL_lines HV0.out hz); have HFT := Lh (show feedT n.data.toList v es z.data.toList = ((feedL n.data.toList v es z.data.toList).map str).flatMap (fun l => Tt.fold l.data.toList) from (fold_str _).symm); have HW1 := Lh (HWR.out w1 HB1.out HV0.out hz); have hpos : 0 < (feedL n.data.toList v es z.data.toList).length := by unfold feedL; rw [List.length_append]; simp
   obtain ⟨ls, hls⟩ : ∃ ls, ls = (feedL n.data.toList v es z.data.toList).map str := ⟨_, rfl⟩
   have hll : (feedL n.data.toList v es z.data.toList).length = ls.length := by rw [hls, List.length_map]
   rw [<- hls] at HLI HFT HW1; rw [hll] at HW1 hpos; have hl4 := HLI.out.2; have HSZ := Lh HLI.out.1; have HFB := Lh (flat_bound 3000 ls HSZ.out); clear hls hll HWR HLI; have f0 := F1.out.c0; have f1 := F1.out.c1; have f2 := F1.out.c2; go_wp2_with fail; refine HW1.out.mono ?_; rintro e w2 ⟨u, rfl, ho, hb2⟩; obtain ⟨g, c, hu⟩ : ∃ g c, u = .slice (some ⟨g, 0, none⟩) ls.length c := by
    rcases ho.2 with ⟨_, h0⟩ | ⟨g, cap, cur, hv, _⟩
    ·omega
    ·exact ⟨g, cap, hv⟩
   have HST : Hid (∀ W : World, Below w2.heap.size w2 W -> ∀ j x, ls[j]? = some x -> W.cell? ⟨g, j, none⟩ = some (.string x)) := Lh (fun W hW => StrAt.below ho hu hW); have L2 := Lh (L1.out.trans (hb2.mono (by omega))); have s2 := hb2.size; subst hu; clear f0 f1 f2 F1 L1 HB1 HW1 ho hb2; go_wp2_with fail; go_loopw [8, 9] (fun sv i wr => ∃ (k : Nat) (s : ByteArray), k <= ls.length /\ sv = .string s /\ i = .int .i64 k /\ s.size <= 4000 * 15002 /\ Hid (s.data.toList = (ls.take k).flatMap (fun l => Tt.fold l.data.toList)) /\ Hid (Below w2.heap.size w2 wr)) (fun _ i _ => ls.length - (intOf i).toNat)
   case atStart => exact ⟨0, ⟨#[]⟩, Nat.zero_le _, rfl, rfl, by decide, Lh rfl, Lh (Below.refl _ _)⟩
   case round =>
    obtain ⟨k, s, hk, rfl, rfl, hs, HS, HB⟩ := hrel; by_cases hlt : k < ls.length
    ·obtain ⟨x, hx⟩ : ∃ x, ls[k]? = some x := ⟨_, List.getElem?_eq_getElem hlt⟩
     have hca := HST.out wr HB.out k x hx; have hxs := HSZ.out x (List.mem_of_getElem? hx); have hlen := take_le ls (k + 1); have hst := format_step ls k x hx; rw [hst, <- HS.out, List.length_append, <- Lib.size_eq] at hlen; have hlen2 : s.size + (Tt.fold x.data.toList).length <= 4000 * 15002 := Nat.le_trans hlen (Nat.le_trans HFB.out (Nat.mul_le_mul_right _ hl4)); have HST2 := Lh hst; clear hx hlen hst; have hki : (k : Int) < (ls.length : Int) := by omega
     go_wp2_with fail; refine (refFold_any _ _ (by omega)).mono ?_; rintro e w3 ⟨rfl, hw⟩; rw [hw]; clear hw w3; obtain ⟨q, hq⟩ : ∃ q, q = (⟨(Tt.fold x.data.toList).toArray⟩ : ByteArray) := ⟨_, rfl⟩
     have zq : q.size = (Tt.fold x.data.toList).length := by rw [hq, size_mk]
     have zq2 : s.size + q.size <= 4000 * 15002 := by omega
     rw [<- hq]; have HQ := Lh (show q.data.toList = Tt.fold x.data.toList from by rw [hq]); clear hq zq hlen2; go_wp2_with fail; go_roundw
     case rel => exact ⟨k + 1, s ++ q, by omega, rfl, by go_num, by rw [bs_size]; exact zq2, Lh (by rw [bs_app, HS.out, HQ.out, HST2.out]), HB⟩
     case measure => simp [intOf]; omega
    ·have hk2 : k = ls.length := by omega
     have HAC := Lh (show s.data.toList = feedT n.data.toList v es z.data.toList from by rw [HS.out, hk2, List.take_length, HFT.out]); have HSL := Lh (show ((feedT n.data.toList v es z.data.toList).length : Int) = (s.size : Int) from by rw [<- HAC.out, <- Lib.size_eq]); clear hk2; by_cases hai : (262144 : Int) < (s.size : Int)
     ·have HY := Lh (show formatV n v es z = ([], 2) from by rw [HX.out, if_pos (by rw [HSL.out]; exact hai)]); go_wp2_with fail; go_ret2; exact ⟨by rw [HY.out]; rfl, L2.out.trans (HB.out.mono (by omega))⟩
     ·have HY := Lh (show formatV n v es z = (s.data.toList, 0) from by rw [HX.out, if_neg (by rw [HSL.out]; exact hai), HAC.out]); go_wp2_with fail; go_ret2; exact ⟨by rw [HY.out]; exact ret_code (mk_bytes rfl), L2.out.trans (HB.out.mono (by omega))⟩
 ·have hzb : (fv != 0) = true := by simp [hz0]
  have HX := Lh (show formatV n v es z = ([], fv) from by rw [HR.out, if_pos (by rw [<- HFV.out]; exact hz0), HFV.out]); go_wp2_with fail; go_ret2; exact ⟨by rw [HX.out]; rfl, L1.out⟩
theorem digit_one (d : UInt8) (h : 49 <= d.toNat) (h2 : d.toNat <= 57) : Tt.numFrom [d] 1 = true := by
 unfold Tt.numFrom; rw [decide_eq_true_iff]; refine ⟨d.toNat - 48, by omega, by omega, ?_⟩; rw [Lib.decDigits_one (by omega), show 48 + (d.toNat - 48) = d.toNat by omega, UInt8.ofNat_toNat]
theorem code_two (c : UInt8) (h : 49 <= c.toNat) (h2 : c.toNat <= 57) : Tt.code [99, c] = true := by
 have hc : c = UInt8.ofNat (49 + (c.toNat - 49)) := by rw [show 49 + (c.toNat - 49) = c.toNat by omega, UInt8.ofNat_toNat]
 rw [hc]; exact (show ∀ n : Nat, n < 9 -> Tt.code [99, UInt8.ofNat (49 + n)] = true by decide) _ (by omega)
theorem UidK.right {k : Int} {u : ByteArray} (h : UidK k u) (h0 : 0 <= k) (h1 : k < 9) : rightB u.data.toList = true := by
 obtain ⟨c, d, hu, hc, hd, hd2⟩ := h; unfold rightB; rw [hu, show ([99, c, 64, d] : List UInt8) = [99, c] ++ 64 :: [d] from rfl, Tt.rightP_last Tt.code code_no_at, code_two c (by omega) (by omega), digit_one d hd hd2]; rfl
theorem UidK.late {k : Int} {p u : ByteArray} (h : UidK k p) (h' : UidK (k + 1) u) : lateU (some p) u = false := by
 obtain ⟨c, d, hp, hc, -, -⟩ := h; obtain ⟨c', d', hu, hc', -, -⟩ := h'; show (Op.bytesLess u.toList p.toList || u.toList == p.toList) = false
 rw [Bool.or_eq_false_iff]; have hlt : c < c' := by rw [UInt8.lt_iff_toNat_lt]; omega
 constructor
 ·rw [<- Bool.not_eq_true]; intro hl; have hl := (lessU_iff u p).1 hl; rw [Lib.toList_data, Lib.toList_data, hu, hp, List.cons_lt_cons_iff] at hl; rcases hl with hl | ⟨-, hl⟩
  ·exact absurd hl (UInt8.lt_irrefl _)
  ·rw [List.cons_lt_cons_iff] at hl; rcases hl with hl | ⟨hl, -⟩
   ·rw [UInt8.lt_iff_toNat_lt] at hl; omega
   ·subst hl; omega
 ·rw [Lib.toList_data, Lib.toList_data, hu, hp, beq_eq_false_iff_ne]; intro he; injection he with _ he
  injection he with he _
  subst he; omega
theorem evs_zero (v : Int) : ∀ (es : List Ev) (k : Int) (p : Option ByteArray), 0 <= k -> k + es.length <= 9 -> (∀ (i : Nat) (e : Ev), es[i]? = some e -> UidK (k + i) e.uid /\ checkV e v = 0) -> (∀ q, p = some q -> UidK (k - 1) q) -> evsV v p es = 0
 | [], _, _, _, _, _, _ => by unfold evsV; rfl
 | e :: r, k, p, hk, hl, h, hp => by
  obtain ⟨h1, h2⟩ := h 0 e rfl; have h1 : UidK k e.uid := by simpa using h1
  refine (evsV_cons v p e r).2 ⟨h1.right hk (by simp at hl; omega), ?_, h2, evs_zero v r (k + 1) (some e.uid) (by omega) (by simp at hl; omega) (fun i x hx => ?_) (fun q hq => by cases hq; rw [show k + 1 - 1 = k by omega]; exact h1)⟩
  ·cases p with
   | none => rfl
   | some q => exact (hp q rfl).late (by rw [show k - 1 + 1 = k by omega]; exact h1)
  ·have := h (i + 1) x hx; rw [show k + 1 + (i : Int) = k + ((i + 1 : Nat) : Int) by omega]; exact this
theorem feed_zero {n : ByteArray} {v : Int} {ts : List (Ev × Value × Value)} (hn : Tt.code n.data.toList = true) (h0 : 1 <= v) (h1 : v <= 6) (hl : ts.length <= 4) (h : ∀ (i : Nat) (t : Ev × Value × Value), ts[i]? = some t -> UidK i t.1.uid /\ checkV t.1 v = 0) : feedV n v (ts.map (·.1)) = 0 := by
 unfold feedV; rw [if_neg (by simp [hn]), if_neg (by omega), if_neg (by rw [List.length_map]; omega)]; refine evs_zero v _ 0 none (by omega) (by rw [List.length_map]; omega) (fun i e he => ?_) (fun q hq => by cases hq); rw [List.getElem?_map] at he; obtain ⟨t, ht, rfl⟩ := Option.map_eq_some_iff.1 he; rw [Int.zero_add]; exact h i t ht
structure ByR (g : Nat) (l : List UInt8) (w : World) : Prop where
 cell : ∀ j c, l[j]? = some c -> w.cell? ⟨g, j, none⟩ = some (.int .u8 (c.toNat : Int))
 free : ∀ j, j < l.length -> w.frozen? ⟨g, j, none⟩ = false
 lt : g < w.heap.size
theorem bytes_own (s : ByteArray) (w : World) : ∃ cap W', (convert 9 76 (.string s)).run Tryz.prog w = .ok (.slice (some ⟨w.heap.size, 0, none⟩) s.size cap) W' /\ Below w.heap.size w W' /\ ByR w.heap.size s.data.toList W' := by
 have hrow : s.data.size <= (bytesRow s (grownCap w s.size 0 5)).size := by simp [bytesRow]
 refine ⟨_, _, run_bytes_of_string w 9 76 5 s Tryz.underlying9 Tryz.underlying76 Tryz.underlying5, ⟨rfl, rfl, rfl, by simp, fun k hk => ?_⟩, fun j c hj => ?_, fun j hj => ?_, by simp⟩
 ·exact Below.heap_alloc w.drew _ k hk
 ·have hj' := (List.getElem?_eq_some_iff.1 hj).1; have hj2 : j < s.data.size := by simpa using hj'
  refine (World.cell?_alloc_mark w.drew _ _ _ j).trans ((bytesRow_at s _ j hj2).trans ?_); have h3 := (List.getElem?_eq_some_iff.1 hj).2; rw [Array.getElem_toList] at h3; rw [h3]
 ·have hj2 : j < s.data.size := by simpa using hj
  refine (World.frozen?_alloc_mark w.drew _ _ _ _ j).trans ?_; have h4 : ¬ (bytesRow s (grownCap w s.size 0 5)).size <= j := by omega
  simp [h4]
theorem ByR.set {g : Nat} {l : List UInt8} {w : World} (h : ByR g l w) (k : Nat) (c : UInt8) (hk : k < l.length) : ByR g (l.set k c) (w.setCell ⟨g, k, none⟩ (.int .u8 (c.toNat : Int))) := by
 obtain ⟨d, hd⟩ : ∃ d, l[k]? = some d := ⟨_, List.getElem?_eq_getElem hk⟩
 refine ⟨fun j e hj => ?_, fun j hj => ?_, by simpa [World.setCell] using h.lt⟩
 ·by_cases hjk : j = k
  ·subst hjk; rw [List.getElem?_set_self hk] at hj; cases hj; exact World.cell?_setCell_same _ _ _ (h.cell j d hd)
  ·rw [List.getElem?_set_ne (fun he => hjk he.symm)] at hj; rw [World.cell?_setCell_other _ _ _ _ (by simp)]; exact h.cell j e hj
 ·have := h.free j (by simpa using hj); simpa [World.frozen?_setCell] using this
theorem ByR.below {g B : Nat} {l : List UInt8} {w w' : World} (h : ByR g l w) (hb : Below B w w') (hg : g < B) : ByR g l w' :=
 ⟨fun j c hj => (hb.cell (p := ⟨g, j, none⟩) hg).trans (h.cell j c hj), fun j hj => by rw [<- h.free j hj]; unfold World.frozen?; rw [hb.block g hg], Nat.lt_of_lt_of_le h.lt (by have := hb.size; exact this)⟩
theorem ByR.str {g : Nat} {l : List UInt8} {w : World} (h : ByR g l w) (cap : Nat) : (convert 76 9 (.slice (some ⟨g, 0, none⟩) l.length cap)).run Tryz.prog w = .ok (.string ⟨l.toArray⟩) w := by
 refine run_convert_bytes_back w 76 9 5 ⟨g, 0, none⟩ cap l Tryz.underlying76 Tryz.underlying5 Tryz.underlying9 fun j hj => ?_
 rw [addr_at]; exact h.cell j _ (List.getElem?_eq_getElem hj)
theorem both_say (s z : ByteArray) (hz : Tt.code z.data.toList = true) : ∃ (n : ByteArray) (v : Int) (es : List Ev) (E : Int), es.length <= 256 /\
  (∀ (w : World) (m : Int), w.cell? ⟨0, 0, none⟩ = some (.int .i64 m) -> Lens w -> Errs w -> Pow w -> 6 < w.heap.size -> Calls Tryz.prog 50 #[.string s, .string z] w fun x w' => ∃ (pu : Option Addr) (cu : Nat) (ts : List (Ev × Value × Value)), x = .returned (.tuple #[.agg #[.string n, .int .i64 v, .slice pu ts.length cu], .int .i64 E]) /\ ts.map (·.1) = es /\ RowT w.heap.size w' (.slice pu ts.length cu) ts /\ Below w.heap.size w w') /\
  (∀ w : World, Calls Tryz.prog 53 #[.string s, .string z] w fun x w' => ∃ (pu : Option Addr) (cu : Nat) (ts : List (Ev × Value × Value)), x = .returned (.tuple #[.agg #[.string n, .int .i64 v, .slice pu ts.length cu], .int .i64 E]) /\ ts.map (·.1) = es /\ RowT w.heap.size w' (.slice pu ts.length cu) ts /\ Below w.heap.size w w') := by
 obtain ⟨⟨⟨n, v, es⟩, E⟩, h0, h1, h2⟩ := both s z hz; exact ⟨n, v, es, E, h0, h1, h2⟩
theorem camp_code : Tt.code (⟨#[99, 97, 109, 112, 117, 115]⟩ : ByteArray).data.toList = true := by decide
theorem z_code : Tt.code (⟨#[122]⟩ : ByteArray).data.toList = true := by decide
theorem same_rows {n : ByteArray} {v : Int} {es : List Ev} {pu qu : Option Addr} {cu du lo lo' : Nat} {ts us : List (Ev × Value × Value)} {W : World} (ht : ts.map (·.1) = es) (hu : us.map (·.1) = es) (h1 : RowT lo W (.slice pu ts.length cu) ts) (h2 : RowT lo' W (.slice qu us.length du) us) (hn : ts.length <= 4611686018427387903) :
  Calls Tryz.prog 51 #[.agg #[.string n, .int .i64 v, .slice pu ts.length cu], .agg #[.string n, .int .i64 v, .slice qu us.length du]] W fun e w' => e = .returned (.bool true) /\ Below W.heap.size W w' := by
 obtain ⟨qa, qc, hq, -, hs⟩ := h1.seg; obtain ⟨ra, rc, hr, -, hs2⟩ := h2.seg; rw [Value.slice.injEq] at hq hr; have h := same51 n n v v (ts.map (·.1)) (us.map (·.1)) pu qu cu du W (by rw [hq.1]; exact hs.evs) (by rw [hr.1]; exact hs2.evs) (by rw [List.length_map]; exact hn) ⟨rfl, rfl, ht.trans hu.symm⟩; rw [List.length_map, List.length_map] at h; exact h
theorem law9 (raw : ByteArray) (ao : Option Addr) (len cap : Nat) (at_ : Int) (cb : UInt8) (line : ByteArray) (w : World) (mx : Int) (hn : Nums w ao len) (hm : w.cell? ⟨0, 0, none⟩ = some (.int .i64 mx)) (hL : Lens w) (hE : Errs w) (hP : Pow w) (h6 : 6 < w.heap.size) :
  Calls Tryz.prog 9 #[.string raw, .slice ao len cap, .int .i64 at_, .int .u8 (cb.toNat : Int), .string line] w fun e w' => e = .returned (.bool true) /\ Below w.heap.size w w' := by
 have HN := Lh hn; have HSix := Lh h6; have HAW : Hid (∀ W, Below w.heap.size w W -> Calls Tryz.prog 33 #[] W fun e w' => e = .returned (.bool true) /\ Below W.heap.size W w') := Lh (fun W hW => awake_any W mx ((hW.cell (p := ⟨0, 0, none⟩) (show 0 < w.heap.size by omega)).trans hm) (by have := hW.size; omega)); have HLens : Hid (∀ W, Below w.heap.size w W -> Lens W) := Lh (fun W hW => hL.below (by omega) hW); have HErr : Hid (∀ W, Below w.heap.size w W -> Errs W) := Lh (fun W hW => hE.below (by omega) hW); have HPow : Hid (∀ W, Below w.heap.size w W -> Pow W) := Lh (fun W hW => hP.below h6 hW); have HMx : Hid (∀ W, Below w.heap.size w W -> W.cell? ⟨0, 0, none⟩ = some (.int .i64 mx)) := Lh (fun W hW => (hW.cell (p := ⟨0, 0, none⟩) (show 0 < w.heap.size by omega)).trans hm); clear hn hm hL hE hP h6; by_cases hlen : (len : Int) <= 400
 rotate_left
 ·have hd1 : decide ((len : Int) <= 400) = false := decide_eq_false hlen; go_enter Tryz.func9, Tryz.ntmps9; go_wp2_with fail; refine (light_any _ _ _ _).mono ?_; rintro e w1 ⟨rfl, hw⟩; rw [hw, hd1]; clear hw w1 hd1; go_wp2_with fail; refine (HAW.out _ (Below.refl _ _)).mono ?_; rintro e w2 ⟨rfl, hb⟩; go_wp2_with fail; go_ret; exact ⟨rfl, hb⟩
 have hd1 : decide ((len : Int) <= 400) = true := decide_eq_true hlen; by_cases hrs : (3000 : Int) < (raw.size : Int)
 ·go_enter Tryz.func9, Tryz.ntmps9; go_wp2_with fail; refine (light_any _ _ _ _).mono ?_; rintro e w1 ⟨rfl, hw⟩; rw [hw, hd1]; clear hw w1 hd1; go_wp2_with fail; refine (HAW.out _ (Below.refl _ _)).mono ?_; rintro e w2 ⟨rfl, hb⟩; go_wp2_with fail; go_ret; exact ⟨rfl, hb⟩
 by_cases hls : (200 : Int) < (line.size : Int)
 ·go_enter Tryz.func9, Tryz.ntmps9; go_wp2_with fail; refine (light_any _ _ _ _).mono ?_; rintro e w1 ⟨rfl, hw⟩; rw [hw, hd1]; clear hw w1 hd1; go_wp2_with fail; refine (HAW.out _ (Below.refl _ _)).mono ?_; rintro e w2 ⟨rfl, hb⟩; go_wp2_with fail; go_ret; exact ⟨rfl, hb⟩
 go_enter Tryz.func9, Tryz.ntmps9; go_wp2_with fail; refine (light_any _ _ _ _).mono ?_; rintro e w1 ⟨rfl, hw⟩; rw [hw, hd1]; clear hw w1 hd1; go_wp2_with fail; refine (roll_any ao len cap w (by omega) HN.out).mono ?_; rintro e w1 ⟨rfl, hd, hb1, hs1⟩; obtain ⟨b, hbd⟩ : ∃ b, b = w.heap.size := ⟨_, rfl⟩
 have HB1 := Lh hb1; rw [<- hbd] at hd hs1 ⊢; have HD1 := Lh hd; have hb9 : w.heap.size <= b := by omega
 have hb8 : b < w1.heap.size := by omega
 clear hd hb1 hbd; go_wp2_with fail; refine (feed20v b w1 HD1.out).mono ?_; rintro e w2 ⟨n1, v1, p1, c1, us1, rfl, hn1, hv10, hv11, hl1, hE1, -, hco1, hz1, -, ho2⟩; have HV1 := Lh (feed_zero hco1 hv10 hv11 hl1 hz1); have HL2 := Lh (HB1.out.trans (ho2.below hb9 (by omega))); have HE1 := Lh hE1; clear hE1 hco1 hz1 ho2 HD1 HB1; go_upto_region 4 with (fail); obtain ⟨I, hI⟩ : ∃ I, I = w2.heap.size := ⟨_, rfl⟩
 obtain ⟨X, hX⟩ : ∃ X, X = w2.alloc (.cells #[.string n1, .int .i64 v1, .slice p1 us1.length c1] 26) := ⟨_, rfl⟩
 obtain ⟨es, hes⟩ : ∃ es, es = us1.map (·.1) := ⟨_, rfl⟩
 have HIX := Lh (show Blk I #[.string n1, .int .i64 v1, .slice p1 us1.length c1] 26 X from by rw [hX, hI]; exact Blk.new w2 _ _); have HEV := Lh (show Evs w2.heap.size X p1 es from by obtain ⟨qa, qc, hq, h⟩ := HE1.out.evs; rw [Value.slice.injEq] at hq; rw [hq.1, hX, hes]; exact h.below (below_box w2 _)); have HLX := Lh (show Below w.heap.size w X from by rw [hX]; exact HL2.out.trans ((below_box w2 _).mono HL2.out.size)); have hel : us1.length = es.length := by rw [hes, List.length_map]
 have HEL := Lh hel; have hIX2 : w2.heap.size <= X.heap.size := by rw [hX]; simp
 have HFV := Lh (show feedV n1 v1 es = 0 from by rw [hes]; exact HV1.out); obtain ⟨m1, hm1⟩ : ∃ m1, m1 = us1.length := ⟨_, rfl⟩
 rw [<- hX, <- hI]; rw [<- hm1] at HIX hl1 HEL ⊢; clear hX hI HE1 HL2 hes hel HV1 hm1; obtain ⟨SL, hSL⟩ : ∃ SL, SL = (formatV n1 v1 es ⟨#[99, 97, 109, 112, 117, 115]⟩).1 := ⟨_, rfl⟩
 obtain ⟨E, hE⟩ : ∃ E, E = (formatV n1 v1 es ⟨#[99, 97, 109, 112, 117, 115]⟩).2 := ⟨_, rfl⟩
 have hsl : SL.length <= 262144 := by
  rw [hSL]; unfold formatV; split
  ·simp
  ·split
   ·simp
   ·split
    ·simp
    ·rename_i h; show (feedT n1.data.toList v1 es (⟨#[99, 97, 109, 112, 117, 115]⟩ : ByteArray).data.toList).length <= 262144; omega
 have HC49 : Hid (Calls Tryz.prog 49 #[.agg #[.string n1, .int .i64 v1, .slice p1 m1 c1], .string ⟨#[99, 97, 109, 112, 117, 115]⟩] X fun e w' => e = .returned (.tuple #[.string (str SL), .int .i64 E]) /\ Below X.heap.size X w') := Lh (by have h := format49 n1 v1 p1 c1 es ⟨#[99, 97, 109, 112, 117, 115]⟩ w2.heap.size X hIX2 HEV.out (by have := HEL.out; omega); rw [<- HEL.out, <- hSL, <- hE] at h; exact h); clear hSL hE; obtain ⟨S, hS⟩ : ∃ S, S = str SL := ⟨_, rfl⟩
 rw [<- hS] at HC49; have hsz : S.size <= 262144 := by rw [hS, show (str SL).size = SL.length from size_mk _]; exact hsl
 clear hS hsl SL; have a0 : X.cell? ⟨I, 0, none⟩ = some (.string n1) := HIX.out.cell 0; have a1 : X.cell? ⟨I, 1, none⟩ = some (.int .i64 v1) := HIX.out.cell 1; have a2 : X.cell? ⟨I, 2, none⟩ = some (.slice p1 m1 c1) := HIX.out.cell 2; go_wp2_with fail; refine HC49.out.mono ?_; rintro e x2 ⟨rfl, hb2⟩; have HB2 := Lh hb2; clear hb2 a0 a1 a2 HC49; obtain ⟨bc, x3, hconv, hb3, hby⟩ := bytes_own S x2; obtain ⟨G, hG⟩ : ∃ G, G = x2.heap.size := ⟨_, rfl⟩
 rw [<- hG] at hconv hby; have HB3 := Lh (HB2.out.trans (hb3.mono HB2.out.size)); have HBY := Lh hby; have HGX := Lh (show X.heap.size <= G from by rw [hG]; exact HB2.out.size); clear hb3 hby hG HB2; go_upto_if 57 with (fail)
 clear hconv; go_cut [] from 57 to 64 (fun wx => Hid (∃ l : List UInt8, l.length = S.size /\ ByR G l wx) /\ Hid (Below X.heap.size X wx))
 case first =>
  have hbl : S.data.toList.length = S.size := (Lib.size_eq S).symm; have HBL := Lh hbl; clear hbl; by_cases h0 : 0 < S.size
  ·have h0i : (0 : Int) < (S.size : Int) := by omega
   have h0f : ¬ ((S.size : Int) < 1) := by omega
   have hbs : (S.size : Int) <= 9223372036854775807 := by omega
   go_wp2_with fail; refine (mod_any at_ _ _ hbs).mono ?_; rintro e x4 ⟨rfl, hx⟩; rw [hx]; clear hx x4; obtain ⟨k, hk⟩ : ∃ k : Nat, modI at_ (S.size : Int) = k := ⟨(modI at_ (S.size : Int)).toNat, by have := modI_lo at_ (S.size : Int); omega⟩
   have hk1 : (k : Int) < S.size := by rw [<- hk]; exact modI_hi _ _ (by omega)
   rw [hk]; clear hk; have hk2 : (0 : Int) <= (k : Int) := by omega
   have hf := HBY.out.free k (by rw [HBL.out]; omega); obtain ⟨d, hd⟩ : ∃ d, S.data.toList[k]? = some d := ⟨_, List.getElem?_eq_getElem (by rw [HBL.out]; omega)⟩
   have hc := HBY.out.cell k d hd; clear hd; have HB4 := Lh (HBY.out.set k cb (by rw [HBL.out]; omega)); go_wp2_with fail; go_meet; exact ⟨Lh ⟨_, by rw [List.length_set]; exact HBL.out, HB4.out⟩, Lh (HB3.out.setCell (p := ⟨G, k, none⟩) HGX.out _)⟩
  ·have h0i : ¬ (0 : Int) < (S.size : Int) := by omega
   go_wp2_with fail; go_meet; exact ⟨Lh ⟨_, HBL.out, HBY.out⟩, HB3⟩
 case rest =>
 obtain ⟨HBL, HB4⟩ := hcut; clear HBY HB3; have HI4 := Lh (HIX.out.below HB4.out HIX.out.lt); have HGW := Lh (show G < wc.heap.size from by obtain ⟨l, -, h⟩ := HBL.out; exact h.lt); obtain ⟨hfl, hfn⟩ := feedL_lines (n := n1) HFV.out camp_code; obtain ⟨fs, hfs⟩ : ∃ fs, fs = (feedL n1.data.toList v1 es (⟨#[99, 97, 109, 112, 117, 115]⟩ : ByteArray).data.toList).map str := ⟨_, rfl⟩
 have HFL := Lh (show ∀ x ∈ fs, x.size <= 3000 from by rw [hfs]; exact hfl); have hfn : fs.length <= 4000 := by rw [hfs]; exact hfn
 have HWR : Hid (Calls Tryz.prog 52 #[.agg #[.string n1, .int .i64 v1, .slice p1 m1 c1], .string ⟨#[99, 97, 109, 112, 117, 115]⟩] wc fun e w' => ∃ fo fc, e = .returned (.slice fo fs.length fc) /\ StrAt w' fo fs /\ Below wc.heap.size wc w') := Lh (by
  have h := lines52 n1 v1 p1 c1 es ⟨#[99, 97, 109, 112, 117, 115]⟩ w2.heap.size wc (Nat.le_trans hIX2 HB4.out.size) (HEV.out.below (HB4.out.mono hIX2)) HFV.out camp_code; rw [<- HEL.out] at h; refine h.mono ?_; rintro e w' ⟨u, rfl, h1, h2⟩; rw [<- hfs] at h1; have h3 : ((feedL n1.data.toList v1 es (⟨#[99, 97, 109, 112, 117, 115]⟩ : ByteArray).data.toList).map str).length = fs.length := by rw [hfs]
  rw [List.length_map] at h3; rw [h3] at h1; rcases h1.2 with ⟨g1, g0⟩ | ⟨g, cap, cur, hv, hg, hgh, hlc, _⟩
  ·obtain ⟨p1, c1, g2⟩ := ownsRow_len h1; refine ⟨p1, c1, by rw [g2], ?_, h2⟩; intro i x hx; have := (List.getElem?_eq_some_iff.1 hx).1; omega
  ·refine ⟨_, cap, by rw [hv], ?_, h2⟩; intro i x hx; rw [hv] at h1; refine ⟨_, rfl, ?_⟩; rw [addr_at]; rw [h1.cellAt i (by have := (List.getElem?_eq_some_iff.1 hx).1; omega), List.getElem?_map, hx]; rfl)
 clear hfl hfs; have a0 : wc.cell? ⟨I, 0, none⟩ = some (.string n1) := HI4.out.cell 0; have a1 : wc.cell? ⟨I, 1, none⟩ = some (.int .i64 v1) := HI4.out.cell 1; have a2 : wc.cell? ⟨I, 2, none⟩ = some (.slice p1 m1 c1) := HI4.out.cell 2; go_wp2_with fail; refine HWR.out.mono ?_; rintro e x5 ⟨fo, fc, rfl, HT, hb5⟩; have HTT := Lh HT; have HB5 := Lh (HB4.out.trans (hb5.mono HB4.out.size)); have HBL5 := Lh (show ∃ l : List UInt8, l.length = S.size /\ ByR G l x5 from by obtain ⟨l, h1, h2⟩ := HBL.out; exact ⟨l, h1, h2.below hb5 HGW.out⟩); clear HT hb5 a0 a1 a2 HWR HBL HB4 HI4 HGW HIX HEV HFV HEL HGX; have HLX5 := Lh (HLX.out.trans (HB5.out.mono HLX.out.size)); clear HB5 HLX; have hk0 : (fs.length : Int) + 1 <= 9223372036854775807 := by omega
 go_wp2_with fail; refine (mod_any at_ _ _ hk0).mono ?_; rintro e x6 ⟨rfl, hx⟩; rw [hx]; clear hx x6 hk0; obtain ⟨kk, hkk⟩ : ∃ kk : Int, kk = modI at_ ((fs.length : Int) + 1) := ⟨_, rfl⟩
 rw [<- hkk]; clear hkk; go_wp2_with fail; go_loopw [17, 18, 19] (fun mv wv iv wr => ∃ (a b : ByteArray) (i q : Nat), mv = .string a /\ wv = .string b /\ iv = .int .i64 i /\ i <= fs.length + 1 /\ a.size <= i * 4000 /\ b.size <= i * 4000 /\ wr = x5.drewN q) (fun _ _ iv _ => fs.length + 1 - (intOf iv).toNat)
 case atStart => exact ⟨⟨#[]⟩, ⟨#[]⟩, 0, 0, rfl, rfl, rfl, Nat.zero_le _, by show 0 <= _; omega, by show 0 <= _; omega, rfl⟩
 case round =>
  obtain ⟨a, b2, i, q, rfl, rfl, rfl, hi, ha, hb2, rfl⟩ := hrel; by_cases hlt : i <= fs.length
  ·have hli : (i : Int) <= fs.length := by omega
   go_upto_if 80 with (fail)
   go_cut [17] from 80 to 84 (fun mv wx => ∃ a2 : ByteArray, mv = .string a2 /\ a2.size <= i * 4000 + 202 /\ wx = x5.drewN q)
   case first =>
    have hl2 : (line ++ ⟨#[13, 10]⟩).size = line.size + 2 := by rw [ByteArray.size_append]; rfl
    by_cases hik : (i : Int) = kk
    ·have hb : ((i : Int) == kk) = true := by simp [hik]
     clear hik; go_wp2_with fail; go_meet; exact ⟨_, rfl, by rw [ByteArray.size_append, hl2]; omega, rfl⟩
    ·have hb : ((i : Int) == kk) = false := by simp [hik]
     clear hik; go_wp2_with fail; go_meet; exact ⟨a, rfl, by omega, rfl⟩
   case rest =>
   obtain ⟨a3, rfl, ha3, hwx⟩ := hcut; rw [hwx]; clear hwx wc; by_cases hlt2 : i < fs.length
   ·have hli2 : (i : Int) < fs.length := by omega
    have hi0 : (0 : Int) <= (i : Int) := by omega
    obtain ⟨x, hx⟩ : ∃ x, fs[i]? = some x := ⟨_, List.getElem?_eq_getElem hlt2⟩
    obtain ⟨fa, rfl, hca⟩ := HTT.out i x hx; have hxs := HFL.out x (List.mem_of_getElem? hx); clear hx; have hl2 : (x ++ ⟨#[13, 10]⟩).size = x.size + 2 := by rw [ByteArray.size_append]; rfl
    go_wp2_with fail; have hk0 : (x.size : Int) + 1 <= 9223372036854775807 := by omega
    refine (mod_any at_ _ _ hk0).mono ?_; rintro e x6 ⟨rfl, hx⟩; rw [hx]; clear hx x6 hk0; obtain ⟨nn, hnn⟩ : ∃ nn : Nat, modI at_ ((x.size : Int) + 1) = nn := ⟨(modI at_ ((x.size : Int) + 1)).toNat, by have := modI_lo at_ ((x.size : Int) + 1); omega⟩
    have hnn2 : (nn : Int) <= x.size := by have := modI_hi at_ ((x.size : Int) + 1) (by omega); omega
    rw [hnn]; clear hnn; have hnn3 : (0 : Int) <= (nn : Int) := by omega
    have e1 : (x.extract 0 nn).size <= 3000 := by rw [ByteArray.size_extract]; omega
    have e2 : (x.extract nn x.size).size <= 3000 := by rw [ByteArray.size_extract]; omega
    have e3 : (x.extract 0 nn ++ ⟨#[13, 10, 9]⟩).size = (x.extract 0 nn).size + 3 := by rw [ByteArray.size_append]; rfl
    have e4 : (x.extract 0 nn ++ ⟨#[13, 10, 9]⟩ ++ x.extract nn x.size).size = (x.extract 0 nn).size + 3 + (x.extract nn x.size).size := by rw [ByteArray.size_append, e3]
    have e5 : (x.extract 0 nn ++ ⟨#[13, 10, 9]⟩ ++ x.extract nn x.size ++ ⟨#[13, 10]⟩).size = (x.extract 0 nn).size + 3 + (x.extract nn x.size).size + 2 := by rw [ByteArray.size_append, e4]; rfl
    have HE5 := Lh (show (x.extract 0 nn ++ ⟨#[13, 10, 9]⟩ ++ x.extract nn x.size ++ ⟨#[13, 10]⟩).size <= 3005 from by rw [e5, ByteArray.size_extract, ByteArray.size_extract]; omega); go_upto_region 20 with (fail); go_quiet (fail)
    go_wp2_with fail; go_roundw
    case rel => exact ⟨_, _, i + 1, _, rfl, rfl, by go_num, by omega, by rw [ByteArray.size_append, hl2]; omega, by rw [ByteArray.size_append]; have := HE5.out; omega, rfl⟩
    case measure => simp [intOf]; omega
   ·have hli2 : ¬ (i : Int) < fs.length := by omega
    go_wp2_with fail; go_roundw
    case rel => exact ⟨a3, b2, i + 1, _, rfl, rfl, by go_num, by omega, by omega, by omega, rfl⟩
    case measure => simp [intOf]; omega
  ·have hli : ¬ (i : Int) <= fs.length := by omega
   have ha2 : a.size <= 20000000 := by omega
   have hb3 : b2.size <= 20000000 := by omega
   obtain ⟨l, hll, hby⟩ := HBL5.out; have hsb := (hby.below (show Below x5.heap.size x5 (x5.drewN q) from ⟨rfl, rfl, rfl, Nat.le_refl _, fun k hk => rfl⟩) hby.lt).str bc; rw [hll] at hsb; obtain ⟨x7, hx7⟩ : ∃ x7, x7 = x5.drewN q := ⟨_, rfl⟩
   have HL7 := Lh (show Below w.heap.size w x7 from by rw [hx7]; exact HLX5.out.trans ⟨rfl, rfl, rfl, Nat.le_refl _, fun k hk => rfl⟩); rw [<- hx7] at hsb ⊢; clear hx7 hll hby HTT HFL HBL5 HLX5 hi ha hb2 hlt; obtain ⟨T1, hT1⟩ : ∃ T1 : ByteArray, T1 = ⟨l.toArray⟩ := ⟨_, rfl⟩
   rw [<- hT1] at hsb; clear hT1 l; go_upto_region 22 with (fail); clear hsb; obtain ⟨T2, hT2⟩ : ∃ T2 : ByteArray, T2 = S ++ raw := ⟨_, rfl⟩
   obtain ⟨Sb, hSb⟩ : ∃ Sb, Sb = x7.heap.size := ⟨_, rfl⟩
   obtain ⟨V, hV⟩ : ∃ V, V = x7.alloc (.cells #[.string raw, .string T1, .string a, .string b2, .string T2] 9) := ⟨_, rfl⟩
   have HSB := Lh (show Blk Sb #[.string raw, .string T1, .string a, .string b2, .string T2] 9 V from by rw [hV, hSb]; exact Blk.new x7 _ _); have HLV := Lh (show Below w.heap.size w V from by rw [hV]; exact HL7.out.trans ((below_box x7 _).mono HL7.out.size)); rw [<- hT2, <- hV, <- hSb]; clear hT2 hV hSb HL7 ha2 hb3; go_loopw [131] (fun jv wr => ∃ j : Nat, jv = .int .i64 j /\ j <= 5 /\ Hid (Below V.heap.size V wr)) (fun jv _ => 5 - (intOf jv).toNat)
   case atStart => exact ⟨0, rfl, Nat.zero_le _, Lh (Below.refl _ _)⟩
   case round =>
    obtain ⟨j, rfl, hj5, HJ⟩ := hrel; have HLr := Lh (HLV.out.trans (HJ.out.mono HLV.out.size)); by_cases hjt : j < 5
    ·have hji : (j : Int) < 5 := by omega
     have hj0 : (0 : Int) <= (j : Int) := by omega
     have HSr := Lh (HSB.out.below HJ.out HSB.out.lt); obtain ⟨zz, hzz⟩ : ∃ zz, wr.cell? ⟨Sb, j, none⟩ = some (.string zz) := by
      rcases (show j = 0 ∨ j = 1 ∨ j = 2 ∨ j = 3 ∨ j = 4 by omega) with rfl | rfl | rfl | rfl | rfl
      ·exact ⟨_, HSr.out.cell 0⟩
      ·exact ⟨_, HSr.out.cell 1⟩
      ·exact ⟨_, HSr.out.cell 2⟩
      ·exact ⟨_, HSr.out.cell 3⟩
      ·exact ⟨_, HSr.out.cell 4⟩
     clear HSr; obtain ⟨n2, v2, es2, E2, hes2, h50, h53⟩ := both_say zz ⟨#[99, 97, 109, 112, 117, 115]⟩ camp_code; have H53 := Lh h53; have HES2 := Lh hes2; clear hes2; have H50 := Lh (h50 wr mx (HMx.out _ HLr.out) (HLens.out _ HLr.out) (HErr.out _ HLr.out) (HPow.out _ HLr.out) (by have := HLr.out.size; have := HSix.out; omega)); clear h50 h53; go_wp2_with fail; refine H50.out.mono ?_; rintro e y1 ⟨pu, cu, ts, rfl, hts, hrow, hb1⟩; have HTS := Lh hts; have HRT := Lh hrow; have HQ1 := Lh hb1; clear hts hrow hb1 H50; go_upto_region 25 with (fail); obtain ⟨K, hK⟩ : ∃ K, K = y1.heap.size := ⟨_, rfl⟩
     obtain ⟨U, hU⟩ : ∃ U, U = y1.alloc (.cells #[.string n2, .int .i64 v2, .slice pu ts.length cu] 26) := ⟨_, rfl⟩
     have HKB := Lh (show Blk K #[.string n2, .int .i64 v2, .slice pu ts.length cu] 26 U from by rw [hU, hK]; exact Blk.new y1 _ _); have HyU := Lh (show Below y1.heap.size y1 U from by rw [hU]; exact below_box y1 _); have HRU := Lh (HRT.out.made HyU.out); have HWU := Lh (HQ1.out.trans (HyU.out.mono HQ1.out.size)); rw [<- hU, <- hK]; clear hU hK HRT HQ1 HyU; go_wp2_with fail; refine (H53.out U).mono ?_; rintro e y2 ⟨qu, du, us, rfl, hus, hrow, hb2⟩; have HUS := Lh hus; have HRQ := Lh hrow; have HQ2 := Lh hb2; clear hus hrow hb2 H53; go_upto_region 26 with (fail); obtain ⟨N, hN⟩ : ∃ N, N = y2.heap.size := ⟨_, rfl⟩
     obtain ⟨V2, hV2⟩ : ∃ V2, V2 = y2.alloc (.cells #[.string n2, .int .i64 v2, .slice qu us.length du] 26) := ⟨_, rfl⟩
     have HNB := Lh (show Blk N #[.string n2, .int .i64 v2, .slice qu us.length du] 26 V2 from by rw [hV2, hN]; exact Blk.new y2 _ _); have HyV := Lh (show Below y2.heap.size y2 V2 from by rw [hV2]; exact below_box y2 _); have HUV := Lh (HQ2.out.trans (HyV.out.mono HQ2.out.size)); have HR1 := Lh (HRU.out.made HUV.out); have HR2 := Lh (HRQ.out.made HyV.out); have HK2 := Lh (HKB.out.below HUV.out HKB.out.lt); have HWV := Lh (HWU.out.trans (HUV.out.mono HWU.out.size)); rw [<- hV2, <- hN]; clear hV2 hN HRU HRQ HQ2 HyV HUV HWU HKB; have b0 : V2.cell? ⟨K, 0, none⟩ = some (.string n2) := HK2.out.cell 0; have b1 : V2.cell? ⟨K, 1, none⟩ = some (.int .i64 v2) := HK2.out.cell 1; have b2_ : V2.cell? ⟨K, 2, none⟩ = some (.slice pu ts.length cu) := HK2.out.cell 2; have d0 : V2.cell? ⟨N, 0, none⟩ = some (.string n2) := HNB.out.cell 0; have d1 : V2.cell? ⟨N, 1, none⟩ = some (.int .i64 v2) := HNB.out.cell 1; have d2 : V2.cell? ⟨N, 2, none⟩ = some (.slice qu us.length du) := HNB.out.cell 2; have HC51 := Lh (same_rows (n := n2) (v := v2) HTS.out HUS.out HR1.out HR2.out (by have h1 := HES2.out; rw [<- HTS.out, List.length_map] at h1; omega)); have hee : (E2 != E2) = false := by simp
     go_wp2_with fail; refine HC51.out.mono ?_; rintro e y3 ⟨rfl, hb3⟩; have HW3 := Lh (HWV.out.trans (hb3.mono HWV.out.size)); clear hb3 HC51 b0 b1 b2_ d0 d1 d2; go_wp2_with fail; go_roundw
     case rel => exact ⟨j + 1, by go_num, by omega, Lh (HJ.out.trans (HW3.out.mono HJ.out.size))⟩
     case measure => simp [intOf]; omega
    ·have hji : ¬ (j : Int) < 5 := by omega
     obtain ⟨n2, v2, es2, E2, hes2, h50, h53⟩ := both_say S ⟨#[122]⟩ z_code; have H53 := Lh h53; have HES2 := Lh hes2; clear hes2; have H50 := Lh (h50 wr mx (HMx.out _ HLr.out) (HLens.out _ HLr.out) (HErr.out _ HLr.out) (HPow.out _ HLr.out) (by have := HLr.out.size; have := HSix.out; omega)); clear h50 h53; go_wp2_with fail; refine H50.out.mono ?_; rintro e y1 ⟨pu, cu, ts, rfl, hts, hrow, hb1⟩; have HTS := Lh hts; have HRT := Lh hrow; have HQ1 := Lh hb1; clear hts hrow hb1 H50; go_upto_region 30 with (fail); obtain ⟨K, hK⟩ : ∃ K, K = y1.heap.size := ⟨_, rfl⟩
     obtain ⟨U, hU⟩ : ∃ U, U = y1.alloc (.cells #[.string n2, .int .i64 v2, .slice pu ts.length cu] 26) := ⟨_, rfl⟩
     have HKB := Lh (show Blk K #[.string n2, .int .i64 v2, .slice pu ts.length cu] 26 U from by rw [hU, hK]; exact Blk.new y1 _ _); have HyU := Lh (show Below y1.heap.size y1 U from by rw [hU]; exact below_box y1 _); have HRU := Lh (HRT.out.made HyU.out); have HWU := Lh (HQ1.out.trans (HyU.out.mono HQ1.out.size)); rw [<- hU, <- hK]; clear hU hK HRT HQ1 HyU; go_wp2_with fail; refine (H53.out U).mono ?_; rintro e y2 ⟨qu, du, us, rfl, hus, hrow, hb2⟩; have HUS := Lh hus; have HRQ := Lh hrow; have HQ2 := Lh hb2; clear hus hrow hb2 H53; go_upto_region 31 with (fail); obtain ⟨N, hN⟩ : ∃ N, N = y2.heap.size := ⟨_, rfl⟩
     obtain ⟨V2, hV2⟩ : ∃ V2, V2 = y2.alloc (.cells #[.string n2, .int .i64 v2, .slice qu us.length du] 26) := ⟨_, rfl⟩
     have HNB := Lh (show Blk N #[.string n2, .int .i64 v2, .slice qu us.length du] 26 V2 from by rw [hV2, hN]; exact Blk.new y2 _ _); have HyV := Lh (show Below y2.heap.size y2 V2 from by rw [hV2]; exact below_box y2 _); have HUV := Lh (HQ2.out.trans (HyV.out.mono HQ2.out.size)); have HR1 := Lh (HRU.out.made HUV.out); have HR2 := Lh (HRQ.out.made HyV.out); have HK2 := Lh (HKB.out.below HUV.out HKB.out.lt); have HWV := Lh (HWU.out.trans (HUV.out.mono HWU.out.size)); rw [<- hV2, <- hN]; clear hV2 hN HRU HRQ HQ2 HyV HUV HWU HKB; have b0 : V2.cell? ⟨K, 0, none⟩ = some (.string n2) := HK2.out.cell 0; have b1 : V2.cell? ⟨K, 1, none⟩ = some (.int .i64 v2) := HK2.out.cell 1; have b2_ : V2.cell? ⟨K, 2, none⟩ = some (.slice pu ts.length cu) := HK2.out.cell 2; have d0 : V2.cell? ⟨N, 0, none⟩ = some (.string n2) := HNB.out.cell 0; have d1 : V2.cell? ⟨N, 1, none⟩ = some (.int .i64 v2) := HNB.out.cell 1; have d2 : V2.cell? ⟨N, 2, none⟩ = some (.slice qu us.length du) := HNB.out.cell 2; have HC51 := Lh (same_rows (n := n2) (v := v2) HTS.out HUS.out HR1.out HR2.out (by have h1 := HES2.out; rw [<- HTS.out, List.length_map] at h1; omega)); have hee : (E2 == E2) = true := by simp
     go_wp2_with fail; refine HC51.out.mono ?_; rintro e y3 ⟨rfl, hb3⟩; have HW3 := Lh (HWV.out.trans (hb3.mono HWV.out.size)); clear hb3 HC51 b0 b1 b2_ d0 d1 d2; go_wp2_with fail; have HL9 := Lh (HLr.out.trans (HW3.out.mono HLr.out.size)); refine (HAW.out _ HL9.out).mono ?_; rintro e y4 ⟨rfl, hb4⟩; go_wp2_with fail; go_ret; exact ⟨rfl, HL9.out.trans (hb4.mono HL9.out.size)⟩
theorem vars_at {P : Program} {w : World} : ∀ {l : List (String × DataW Unit)} {ps : List MemPlace}, DataW.LaidVars P w l ps -> ∀ {i : Nat} {x : String × DataW Unit}, l[i]? = some x ->
  ∃ g t cs fuel p, P.globalNamed x.1 = some g /\ (P.globals[g]?).map (·.type) = some t /\ w.var? P x.1 = some cs /\ DataW.trod (fun _ => ()) P w 0 (fun _ => true) false fuel t cs.toList = some (x.2, p)
 | [], _, _, i, x, hx => by simp at hx
 | (n, d) :: r, ps, h, i, x, hx => by
  obtain ⟨g, t, cs, fuel, p, q, h1, h2, h3, h4, hr, _⟩ := h; cases i with
  | zero =>
   simp only [List.getElem?_cons_zero, Option.some.injEq] at hx; subst hx; exact ⟨g, t, cs, fuel, p, h1, h2, h3, h4⟩
  | succ i => exact vars_at hr (by simpa using hx)
theorem laid_tab {W : World} {l : List (String × DataW Unit)} (h : laidMet Tryz.prog l W) {i g n : Nat} {t e : TypeId} {k : IntKind} {zs : List Int} {x : String × DataW Unit} (hx : l[i]? = some x) (hd : x.2 = Lib.tabData k zs) (hg : Tryz.prog.globalNamed x.1 = some g) (hty : (Tryz.prog.globals[g]?).map (·.type) = some t)
  (ht : Tryz.prog.underlying t = some (.array n e)) (he : Tryz.prog.underlying e = some (.int k)) (hce : Tryz.prog.cellsOf e = 1) (hct : Tryz.prog.cellsOf t = n) : ∃ u fr, W.heap[g]? = some (.cells (zs.map fun z => Value.int k z).toArray u fr) := by
 obtain ⟨ps, hl, _⟩ := h; obtain ⟨g', t', cs, fuel, p, h1, h2, h3, h4⟩ := vars_at hl hx; obtain rfl := Option.some.inj (hg.symm.trans h1); obtain rfl := Option.some.inj (hty.symm.trans h2); rw [hd] at h4; have hc := Lib.cells_of_tab ht he hce hct h4; unfold World.var? at h3; rw [h1] at h3; simp only [Option.bind_some] at h3; split at h3
 ·rename_i cs' u fr heq
  simp only [Option.some.injEq] at h3; subst h3; exact ⟨u, fr, by rw [heq, <- hc]⟩
 ·cases h3
theorem lens_laid {W : World} {l : List (String × DataW Unit)} (h : laidMet Tryz.prog l W) {i : Nat} {x : String × DataW Unit} (hx : l[i]? = some x) (hd : x.2 = Lib.tabData .i64 [31, 28, 31, 30, 31, 30, 31, 31, 30, 31, 30, 31]) (hg : Tryz.prog.globalNamed x.1 = some 3) : Lens W := by
 obtain ⟨u, fr, hh⟩ := laid_tab (g := 3) (t := 324) (e := 3) (n := 12) h hx hd hg (by kernel_rfl) (by kernel_rfl) (by kernel_rfl) (by kernel_rfl) (by kernel_rfl); intro j hj; have : W.cell? ⟨3, j, none⟩ = (([31, 28, 31, 30, 31, 30, 31, 31, 30, 31, 30, 31] : List Int).map fun z => Value.int .i64 z).toArray[j]? := by simp [World.cell?, hh]
 rw [this]; exact (show ∀ j : Nat, j < 12 -> (([31, 28, 31, 30, 31, 30, 31, 31, 30, 31, 30, 31] : List Int).map fun z => Value.int .i64 z).toArray[j]? = some (.int .i64 (([31, 28, 31, 30, 31, 30, 31, 31, 30, 31, 30, 31] : List Int).getD j 0)) from fun j hj => by
  rcases (show j = 0 ∨ j = 1 ∨ j = 2 ∨ j = 3 ∨ j = 4 ∨ j = 5 ∨ j = 6 ∨ j = 7 ∨ j = 8 ∨ j = 9 ∨ j = 10 ∨ j = 11 by omega) with rfl | rfl | rfl | rfl | rfl | rfl | rfl | rfl | rfl | rfl | rfl | rfl <;> rfl) j hj
theorem pow_laid {W : World} {l : List (String × DataW Unit)} (h : laidMet Tryz.prog l W) {i : Nat} {x : String × DataW Unit} (hx : l[i]? = some x) (hd : x.2 = Lib.tabData .u64 Lib.pow10Tab) (hg : Tryz.prog.globalNamed x.1 = some 6) : Pow W /\ 6 < W.heap.size := by
 obtain ⟨u, fr, hh⟩ := laid_tab (g := 6) (t := 330) (e := 245) (n := 20) h hx hd hg (by kernel_rfl) (by kernel_rfl) (by kernel_rfl) (by kernel_rfl) (by kernel_rfl); exact ⟨⟨u, fr, hh⟩, (Array.getElem?_eq_some_iff.1 hh).1⟩
theorem iface_of_trod {P : Program} {w : World} {fuel t : Nat} {cs : List Value} {r : DataW Unit × List MemPlace} {m} (ht : P.underlying t = some (.interface m)) (h : DataW.trod (fun _ => ()) P w 0 (fun _ => true) false fuel t cs = some r) : cs = [.nilIface] ∨ ∃ te pe, cs = [.iface te pe] := by
 cases fuel with
 | zero => cases h
 | succ n =>
  unfold DataW.trod at h; rw [ht] at h; split at h <;> simp_all
def isIface (P : Program) (t : TypeId) : Bool := match P.underlying t with | some (.interface _) => true | _ => false
theorem iface_of {P : Program} {t : TypeId} (ht : isIface P t = true) : ∃ m, P.underlying t = some (.interface m) := by
 unfold isIface at ht; split at ht
 ·exact ⟨_, by assumption⟩
 ·cases ht
theorem err_laid {W : World} {l : List (String × DataW Unit)} (h : laidMet Tryz.prog l W) {i g : Nat} {t : TypeId} {x : String × DataW Unit} (hx : l[i]? = some x) (hg : Tryz.prog.globalNamed x.1 = some g) (hty : (Tryz.prog.globals[g]?).map (·.type) = some t)
  (ht : isIface Tryz.prog t = true) : ∃ ev, W.cell? ⟨g, 0, none⟩ = some ev /\ (ev = .nilIface ∨ ∃ te pe, ev = .iface te pe) := by
 obtain ⟨ps, hl, _⟩ := h; obtain ⟨g', t', cs, fuel, p, h1, h2, h3, h4⟩ := vars_at hl hx; obtain rfl := Option.some.inj (hg.symm.trans h1); obtain rfl := Option.some.inj (hty.symm.trans h2); obtain ⟨m, hm⟩ := iface_of ht; have hc := iface_of_trod hm h4; unfold World.var? at h3; rw [h1] at h3; simp only [Option.bind_some] at h3; split at h3
 ·rename_i cs' u fr heq
  simp only [Option.some.injEq] at h3; subst h3; rcases hc with hc | ⟨te, pe, hc⟩
  ·refine ⟨.nilIface, ?_, .inl rfl⟩; simp [World.cell?, heq, <- Array.getElem?_toList, hc]
  ·refine ⟨.iface te pe, ?_, .inr ⟨te, pe, rfl⟩⟩; simp [World.cell?, heq, <- Array.getElem?_toList, hc]
 ·cases h3
end Go.Proofs.YtageielcdebjlaaGreatDoor
