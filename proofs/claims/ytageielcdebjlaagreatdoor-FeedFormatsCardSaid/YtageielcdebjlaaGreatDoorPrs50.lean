/- feed.Parse (function 50) on the text of a valid feed. -/
import Derived.Test.YtageielcdebjlaaGreatDoorEvP
import Derived.Test.YtageielcdebjlaaGreatDoorPk27
namespace Go.Proofs.YtageielcdebjlaaGreatDoor
open Go.RowKit

/-- What the parser leaves while one of its events is read; l: it is read. -/
structure EvS (p g : Nat) (z : ByteArray) (L1 L2 : List ByteArray) (l : Bool) (w x : World) : Prop where
  par : ∃ o cap, Par p g o cap (if l = true then L2 else L1) z false x
  but : But p w.heap.size w x
theorem EvS.start {p g : Nat} {z : ByteArray} {L1 L2 : List ByteArray} {w : World} (h : ∃ o cap, Par p g o cap L1 z false w) : EvS p g z L1 L2 false w w.drew := by
  obtain ⟨o, cap, hp⟩ := h; exact ⟨⟨o, cap, hp.other rfl rfl⟩, but_draw (But.refl p _ w)⟩
theorem EvS.alloc {p g : Nat} {z : ByteArray} {L1 L2 : List ByteArray} {l : Bool} {w x : World} (h : EvS p g z L1 L2 l w x) (o : Obj) (hg : g < w.heap.size) : EvS p g z L1 L2 l w (x.alloc o) := by
  obtain ⟨q, cap, hp⟩ := h.par
  exact ⟨⟨q, cap, hp.below (below_box x _) (Nat.lt_of_lt_of_le hg h.but.size)⟩, but_alloc h.but h.but.size o⟩
theorem EvS.feed {p g : Nat} {z n : ByteArray} {v : Int} {ev : Value} {L1 L2 : List ByteArray} {l : Bool} {w x : World} (h : EvS p g z L1 L2 l w x) (hf : FeedB (p + 1) n v ev w) : FeedB (p + 1) n v ev x := hf.block (h.but.block (p + 1) hf.lt (by omega))
theorem EvS.ev {p g : Nat} {z : ByteArray} {L1 L2 : List ByteArray} {l : Bool} {w x : World} {ev : Ev} {ver m : Int} (h : EvS p g z L1 L2 l w x) (hu : l = false) (hL1 : L1 = (evLines ev z.data.toList).map str ++ L2) (hg : g < w.heap.size) (h3 : 3 < p) (hL : Lens w) (hm : w.cell? ⟨0, 0, none⟩ = some (.int .i64 m)) (hck : checkV ev ver = 0) (hver : ver ≤ 64) (hz : z.size ≤ 1000) (hp : p < w.heap.size) :
    Calls Tryz.prog 108 #[.pointer (some ⟨p, 0, none⟩)] x fun e x1 => ∃ v v', e = .returned (evVal ev v v') ∧ RowI x.heap.size x1 v ev.days.ex ∧ RowI x.heap.size x1 v' ev.days.xt ∧ EvS p g z L1 L2 true w x1 ∧ But p x.heap.size x x1 := by
  obtain ⟨o, cap, hpar⟩ := h.par
  subst hu; have hb := h.but.below (Nat.le_refl p) (Nat.le_of_lt hp)
  have hpar : Par p g o cap ((evLines ev z.data.toList).map str ++ L2) z false x := by rw [← hL1]; exact hpar
  refine (event108 p g o cap L2 ev ver m z x hpar (Nat.lt_of_lt_of_le hg h.but.size) h3 (hL.below h3 hb) ((hb.cell (p := ⟨0, 0, none⟩) (by show 0 < p; omega)).trans hm) hck hver hz).mono ?_
  rintro e x1 ⟨v, v', rfl, hX, hY, hP, hK⟩; exact ⟨v, v', rfl, hX, hY, ⟨hP, but_then h.but hK h.but.size⟩, hK⟩
theorem RowT.butT {b lo : Nat} {w w' : World} {v : Value} {ts : List (Ev × Value × Value)} (h : RowT lo w v ts) (hb : b < lo) (ho : But b w.heap.size w w') : RowT lo w' v ts := ⟨row_but h.row hb ho, fun t ht => ⟨(h.ref t ht).1, row_but (h.ref t ht).2.1 hb ho, row_but (h.ref t ht).2.2 hb ho⟩⟩
theorem FeedB.grownT {f : Nat} {n : ByteArray} {v : Int} {ev u : Value} {w w' : World} {B k c : Nat} {e : TypeId} {xs : List Value} (h : FeedB f n v ev w) (hr : w.ownsRow B e k u c xs) (hf : f < B) (hg : w.grownBy w' u.ownBlock) : FeedB f n v ev w' :=
  h.block (hg.block f h.lt fun he => by have := (hr.lt f he.symm).1; omega)
theorem Par.grownT {b g o cap : Nat} {xs : List ByteArray} {z : ByteArray} {bad : Bool} {w w' : World} {B k c : Nat} {e : TypeId} {u : Value} {ys : List Value} (h : Par b g o cap xs z bad w) (hr : w.ownsRow B e k u c ys) (hb : b < B) (hgB : g < b) (hg : w.grownBy w' u.ownBlock) : Par b g o cap xs z bad w' :=
  h.other (hg.block b h.lt fun he => by have := (hr.lt b he.symm).1; omega) (hg.block g (by have := h.lt; omega) fun he => by have := (hr.lt g he.symm).1; omega)
/-- The lines that are left when these events are still to be read. -/
def tailL (es : List Ev) (z : List UInt8) : List ByteArray := (es.flatMap fun e => evLines e z).map str ++ [str [69, 78, 68, 58, 86, 67, 65, 76, 69, 78, 68, 65, 82]]
theorem tail_cons (e : Ev) (r : List Ev) (z : List UInt8) : tailL (e :: r) z = (evLines e z).map str ++ tailL r z := by unfold tailL; rw [List.flatMap_cons, List.map_append, List.append_assoc]
theorem tail_head (e : Ev) (r : List Ev) (z : List UInt8) : ∃ q, tailL (e :: r) z = str (kEvent ++ []) :: q := ⟨_, by rw [tail_cons]; rfl⟩
theorem feedL_split (n : List UInt8) (v : Int) (es : List Ev) (z : List UInt8) : (feedL n v es z).map str = str (kBegin ++ []) :: str (kVersion ++ [50, 46, 48]) :: str (kProdid ++ [45, 47, 47, 116, 105, 109, 101, 116, 97, 98, 108, 101, 47, 47, 69, 78]) :: str (kName ++ n) :: str (kRevision ++ Lib.decDigits v.toNat) :: tailL es z := by
  unfold feedL tailL; rw [List.map_append, List.map_append]; rfl
theorem notX_ev (e : Ev) (z : List UInt8) : ∀ l ∈ evLines e z, Lib.hasPrefix l [88, 45] = false := by
  intro l hl; unfold evLines evA evX evR evS evL evC at hl
  simp only [List.mem_append, List.mem_cons, List.not_mem_nil, or_false] at hl
  rcases hl with ((((h | h) | h) | h) | h) | h
  · rcases h with rfl | rfl | rfl | rfl | rfl | rfl <;> exact prefix_ne _ _ (by decide)
  · split at h
    · cases h
    · rw [List.mem_singleton.1 h]; exact prefix_ne _ _ (by decide)
  · split at h
    · cases h
    · rw [List.mem_singleton.1 h]; exact prefix_ne _ _ (by decide)
  · subst h; exact prefix_ne _ _ (by decide)
  · split at h
    · cases h
    · rw [List.mem_singleton.1 h]; exact prefix_ne _ _ (by decide)
  · rcases h with rfl | rfl
    · split <;> exact prefix_ne _ _ (by decide)
    · exact prefix_ne _ _ (by decide)
theorem notX (n : List UInt8) (v : Int) (es : List Ev) (z : List UInt8) : ∀ x ∈ (feedL n v es z).map str, Lib.hasPrefix x.data.toList [88, 45] = false := by
  intro x hx; obtain ⟨l, hl, rfl⟩ := List.mem_map.1 hx
  show Lib.hasPrefix l [88, 45] = false
  unfold feedL headL at hl
  simp only [List.mem_append, List.mem_cons, List.not_mem_nil, or_false, List.mem_flatMap] at hl
  rcases hl with (h | ⟨e, _, h⟩) | h
  · rcases h with rfl | rfl | rfl | rfl | rfl <;> exact prefix_ne _ _ (by decide)
  · exact notX_ev e z l h
  · subst h; exact prefix_ne _ _ (by decide)

set_option maxHeartbeats 16000000 in
set_option maxRecDepth 100000 in
theorem parse50 (s n z : ByteArray) (v m : Int) (es : List Ev) (w : World) (hs : s.size ≤ 262144) (hv : feedV n v es = 0) (hzc : Tt.code z.data.toList = true) (heb : ∀ e ∈ es, EvB e) (hu : Tt.unf s.data.toList = some (feedL n.data.toList v es z.data.toList)) (hm : w.cell? ⟨0, 0, none⟩ = some (.int .i64 m)) (hL : Lens w) (hPw : Pow w) (h6 : 6 < w.heap.size) :
    Calls Tryz.prog 50 #[.string s, .string z] w fun x w' => ∃ (pu : Option Addr) (cu : Nat) (ts : List (Ev × Value × Value)), ts.map (·.1) = es ∧ x = .returned (.tuple #[.agg #[.string n, .int .i64 v, .slice pu ts.length cu], .int .i64 0]) ∧ RowT w.heap.size w' (.slice pu ts.length cu) ts ∧ Below w.heap.size w w' := by
  have HZ := Lib.hid hzc; have hz : z.size ≤ 1000 := Nat.le_trans (code_size hzc) (by decide)
  obtain ⟨hv0, hv1, hel, hev⟩ := feedV_ok hv
  have HEV := Lib.hid (evsV_each v es none hev)
  have HFV := Lib.hid hv; have HEB := Lib.hid heb; obtain ⟨hll, hln⟩ := feedL_lines (n := n) hv hzc
  obtain ⟨xs, hxs⟩ : ∃ xs, xs = (feedL n.data.toList v es z.data.toList).map str := ⟨_, rfl⟩
  have hln : xs.length ≤ 4000 := by rw [hxs]; exact hln
  have hno : ∀ x ∈ xs, Lib.hasPrefix x.data.toList [88, 45] = false := by rw [hxs]; exact notX _ _ _ _
  have HNO := Lib.hid hno; have HXS := Lib.hid hxs; have HU := Lib.hid hu; have HLW := Lib.hid hL; have HPW := Lib.hid hPw; have HM := Lib.hid hm; have H6 := Lib.hid h6; have L0 : Below w.heap.size w (w.alloc (.cells #[.string ⟨#[]⟩, .int .i64 0, .slice none 0 0] 26)) := (Below.refl _ w).alloc (Nat.le_refl _) _
  have R0 : FeedB w.heap.size ⟨#[]⟩ 0 (.slice none 0 0) (w.alloc (.cells #[.string ⟨#[]⟩, .int .i64 0, .slice none 0 0] 26)) := heap_alloc_new w _
  have hm0 := (L0.cell (p := ⟨0, 0, none⟩) (show 0 < w.heap.size by omega)).trans hm
  have hsi : ¬ ((262144 : Int) < (s.size : Int)) := by omega
  clear hzc hu hv hev hm hno hL hPw hll hxs heb; go_enter Tryz.func50, Tryz.ntmps50
  go_wp2_with fail
  refine (code_any _ _).mono ?_
  rintro e w1 ⟨rfl, hw⟩; rw [hw]
  clear hw w1; rw [HZ.out]
  go_wp2_with fail
  refine (unfold_any s (by omega) _ m hm0).mono ?_
  rintro e w1 ⟨hU, hb1⟩; obtain ⟨g, cap, ys, hys, rfl, hstr, hg1, hg2, hcap, _⟩ : ∃ (g cap : Nat) (ys : List ByteArray), ys = xs ∧ e = .returned (.tuple #[.slice (some ⟨g, 0, none⟩) ys.length cap, .bool true]) ∧ StrAt w1 (some ⟨g, 0, none⟩) ys ∧ w.heap.size + 1 ≤ g ∧ g < w1.heap.size ∧ ys.length ≤ cap ∧ True := by
    rcases hU with ⟨h1, _⟩ | ⟨g, cap, ys, h1, h2, h3, h4, h5, h6, _⟩
    · rw [HU.out] at h1; cases h1
    · rw [HU.out] at h1
      exact ⟨g, cap, ys, map_data_inj (by rw [HXS.out, ← Option.some.inj h1]; simp [List.map_map, Function.comp_def, str]), h2, h3, by simpa using h4, h5, h6, trivial⟩
  subst hys; have HSTR := Lib.hid hstr; have L1 := L0.trans (hb1.mono (by simp))
  have R1 : FeedB w.heap.size ⟨#[]⟩ 0 (.slice none 0 0) w1 := (hb1.block _ (by simp)).trans R0
  have s1 : w.heap.size + 1 ≤ w1.heap.size := by have := hb1.size; simpa using this
  clear hstr hm0 L0 R0 hb1 hU; go_wp2_with fail
  refine (delete_none _ _ _ _ (by omega) HSTR.out HNO.out).mono ?_
  rintro e w2 ⟨rfl, q, hw⟩; rw [hw]
  clear hw w2; go_wp2_with fail
  obtain ⟨W, hW, P0, F0, R2, L2, T2, s2⟩ := parse_start w.heap.size g cap ys z w w1 q hg1 hg2 hcap HSTR.out L1 R1
  have HW := Lib.hid hW; obtain ⟨p, hp⟩ : ∃ p, p = w1.heap.size := ⟨_, rfl⟩
  have HP := Lib.hid hp; rw [← HP.out] at P0 F0 s2 s1 hg2
  have hrp : w.heap.size < p := by omega
  have hgl : g < W.heap.size := by omega
  obtain ⟨tl, htl⟩ : ∃ q, q = tailL es z.data.toList := ⟨_, rfl⟩
  have HTL := Lib.hid htl; have P0' : Par p g 0 cap (str (kBegin ++ []) :: str (kVersion ++ [50, 46, 48]) :: str (kProdid ++ [45, 47, 47, 116, 105, 109, 101, 116, 97, 98, 108, 101, 47, 47, 69, 78]) :: str (kName ++ n.data.toList) :: str (kRevision ++ Lib.decDigits v.toNat) :: tl) z false W := by
    have := P0
    rw [HXS.out, feedL_split, ← HTL.out] at this
    exact this
  clear hW hp P0 L1 R1 hcap htl; rw [← HW.out, ← HP.out]; refine (take_any p g _ _ _ _ z ⟨#[66, 69, 71, 73, 78, 58, 86, 67, 65, 76, 69, 78, 68, 65, 82]⟩ _ W P0' (prefix_app kBegin _)).mono ?_
  rintro e w3 ⟨rfl, ⟨o3, c3, P3⟩, K3⟩
  rw [show (⟨(Lib.trimPrefix (str (kBegin ++ [])).data.toList (⟨#[66, 69, 71, 73, 78, 58, 86, 67, 65, 76, 69, 78, 68, 65, 82]⟩ : ByteArray).data.toList).toArray⟩ : ByteArray) = str [] from congrArg str (trim_app kBegin _)]
  clear P0'; go_wp2_with fail
  refine (take_any p g _ _ _ _ z ⟨#[86, 69, 82, 83, 73, 79, 78, 58]⟩ _ w3 P3 (prefix_app kVersion _)).mono ?_
  rintro e w4 ⟨rfl, ⟨o4, c4, P4⟩, K4⟩
  rw [show (⟨(Lib.trimPrefix (str (kVersion ++ [50, 46, 48])).data.toList (⟨#[86, 69, 82, 83, 73, 79, 78, 58]⟩ : ByteArray).data.toList).toArray⟩ : ByteArray) = str [50, 46, 48] from congrArg str (trim_app kVersion _)]
  clear P3; go_wp2_with fail
  refine (take_any p g _ _ _ _ z ⟨#[80, 82, 79, 68, 73, 68, 58]⟩ _ w4 P4 (prefix_app kProdid _)).mono ?_
  rintro e w5 ⟨rfl, ⟨o5, c5, P5⟩, K5⟩
  rw [show (⟨(Lib.trimPrefix (str (kProdid ++ [45, 47, 47, 116, 105, 109, 101, 116, 97, 98, 108, 101, 47, 47, 69, 78])).data.toList (⟨#[80, 82, 79, 68, 73, 68, 58]⟩ : ByteArray).data.toList).toArray⟩ : ByteArray) = str [45, 47, 47, 116, 105, 109, 101, 116, 97, 98, 108, 101, 47, 47, 69, 78] from congrArg str (trim_app kProdid _)]
  clear P4; go_wp2_with fail
  refine (take_any p g _ _ _ _ z ⟨#[78, 65, 77, 69, 58]⟩ _ w5 P5 (prefix_app kName _)).mono ?_
  rintro e w6 ⟨rfl, ⟨o6, c6, P6⟩, K6⟩
  rw [show (⟨(Lib.trimPrefix (str (kName ++ n.data.toList)).data.toList (⟨#[78, 65, 77, 69, 58]⟩ : ByteArray).data.toList).toArray⟩ : ByteArray) = str n.data.toList from congrArg str (trim_app kName _)]
  clear P5; rw [str_data]
  have K : Only p W w6 := ((K3.trans K4).trans K5).trans K6
  have F6 := F0.block (K.2.2.2.2 (p + 1) (by omega))
  have R6 := R2.block (K.2.2.2.2 w.heap.size (by omega))
  have T6 := strAt_block T2 (K.2.2.2.2 g (by have := P6.ne; omega))
  have L6 := L2.trans (K.below (by omega))
  have s6 : W.heap.size ≤ w6.heap.size := Nat.le_of_eq K.2.2.2.1.symm
  clear K3 K4 K5 K6 K F0 R2 T2 L2; have hf := F6.fr 0; have cf := F6.c0; have hgp : g < p := hg2
  go_wp2_with fail
  obtain ⟨w7, hw7⟩ : ∃ w7, w7 = w6.setCell ⟨p + 1, 0, none⟩ (.string n) := ⟨_, rfl⟩
  rw [← hw7]; have h67 : ∀ k, k ≠ p + 1 → w7.heap[k]? = w6.heap[k]? := fun k hk => by rw [hw7]; exact Below.heap_setCell _ _ _ _ hk
  have F7 : FeedB (p + 1) n 0 (.slice none 0 0) w7 := by
    rw [hw7]; exact F6.name
  have P7 := P6.other (h67 p (by omega)) (h67 g (by omega))
  have R7 := R6.block (h67 w.heap.size (by omega))
  have T7 := strAt_block T6 (h67 g (by omega))
  have L7 : Below w.heap.size w w7 := by rw [hw7]; exact L6.setCell (by simp; omega) _
  have s7 : W.heap.size ≤ w7.heap.size := by rw [hw7]; simpa [World.setCell] using s6
  have hp7 : Hid (p + 2 ≤ w7.heap.size) := F7.lt
  clear hf cf hw7 h67 F6 P6 R6 T6 L6 s6; refine (take_any p g _ _ _ _ z ⟨#[82, 69, 86, 73, 83, 73, 79, 78, 58]⟩ _ w7 P7 (prefix_app kRevision _)).mono ?_
  rintro e w8 ⟨rfl, ⟨o8, c8, P8⟩, K8⟩
  rw [show (⟨(Lib.trimPrefix (str (kRevision ++ (Lib.decDigits v.toNat))).data.toList (⟨#[82, 69, 86, 73, 83, 73, 79, 78, 58]⟩ : ByteArray).data.toList).toArray⟩ : ByteArray) = str (Lib.decDigits v.toNat) from congrArg str (trim_app kRevision _)]
  clear P7; go_wp2_with fail
  refine (number_any p g _ _ _ z (str (Lib.decDigits v.toNat)) v (by rw [show (str (Lib.decDigits v.toNat)).size = (Lib.decDigits v.toNat).length from size_mk _]; exact Nat.le_trans (Tt.dec_len 4 _ (by omega)) (by decide)) (by rw [show (str (Lib.decDigits v.toNat)).data.toList = Lib.decDigits v.toNat from rfl, Tt.atoi_dec]; congr 1; omega) w8 P8 (by rw [K8.2.2.2.1]; omega)).mono ?_
  rintro e w9 ⟨rfl, P9, K9⟩; have h79 : ∀ k, k < w7.heap.size → k ≠ p → w9.heap[k]? = w7.heap[k]? := fun k hk hkp => (K9.block k (by rw [K8.2.2.2.1]; exact hk) hkp).trans (K8.2.2.2.2 k hkp)
  have F9 := F7.block (h79 (p + 1) F7.lt (by omega))
  have R9 := R7.block (h79 w.heap.size R7.lt (by omega))
  have T9 := strAt_block T7 (h79 g (by omega) (by omega))
  have s9 : W.heap.size ≤ w9.heap.size := by have := K9.size; rw [K8.2.2.2.1] at this; omega
  have L9 := L7.trans ((K8.below (by omega : w.heap.size ≤ p)).trans (K9.below (by omega) (by rw [K8.2.2.2.1]; omega)))
  have hf := F9.fr 1; have cf := F9.c1; have cb := P9.c2; clear P8 K8 K9 h79 F7 R7 T7 L7 s7 hp7; go_upto_block 1 with fail
  obtain ⟨w10, hw10⟩ : ∃ w10, w10 = w9.setCell ⟨p + 1, 1, none⟩ (.int .i64 v) := ⟨_, rfl⟩
  rw [← hw10]; have h67 : ∀ k, k ≠ p + 1 → w10.heap[k]? = w9.heap[k]? := fun k hk => by rw [hw10]; exact Below.heap_setCell _ _ _ _ hk
  have F10 := Lib.hid (show FeedB (p + 1) n v (.slice none 0 0) w10 from by rw [hw10]; exact F9.rev)
  have P10 := Lib.hid (P9.other (h67 p (by omega)) (h67 g (by omega)))
  have R10 := Lib.hid (R9.block (h67 w.heap.size (by omega)))
  have T10 := Lib.hid (strAt_block T9 (h67 g (by omega)))
  have L10 : Hid (Below w.heap.size w w10) := Lib.hid (by rw [hw10]; exact L9.setCell (by simp; omega) _)
  have hz10 : Hid (p + 2 ≤ w10.heap.size) := Lib.hid F10.out.lt
  clear hf cf cb hw10 h67 F9 P9 R9 T9 L9 s9; obtain ⟨i0, hi, hz0, hz1, hz2⟩ := info_parts infoEv
  have hfg : p + 1 ≠ g := by omega
  have hfp : p + 1 ≠ p := by omega
  have hp3 : 3 < p := by omega
  have hgp2 : g < p := hg2
  go_loopg [] es.length (fun j wx => ∃ (pu : Option Addr) (cu : Nat) (ts : List (Ev × Value × Value)) (e2 : List Ev), Hid (e2.length = j) ∧ Hid (ts.map (·.1) ++ e2 = es) ∧ Hid (∃ o cap, Par p g o cap (tailL e2 z.data.toList) z false wx) ∧ Hid (FeedB (p + 1) n v (.slice pu ts.length cu) wx) ∧ Hid (RowT (p + 2) wx (.slice pu ts.length cu) ts) ∧ Hid (FeedB w.heap.size ⟨#[]⟩ 0 (.slice none 0 0) wx) ∧ Hid (StrAt wx (some ⟨g, 0, none⟩) ys) ∧ Hid (Below w.heap.size w wx) ∧ p + 2 ≤ wx.heap.size)
  case atStart => exact ⟨none, 0, [], es, Lib.hid rfl, Lib.hid rfl, Lib.hid ⟨_, _, by rw [← HTL.out]; exact P10.out⟩, F10, Lib.hid (RowT.nil _ _), R10, T10, L10, hz10.out⟩
  case round =>
    clear F10 P10 R10 T10 L10 hz10; obtain ⟨pu, cu, ts, e2, HJ, HES, HP, HF, HT, HR, HTX, HLB, hRw⟩ := hrel; have hbad : wr.cell? ⟨p, 2, none⟩ = some (.bool false) := by obtain ⟨o, cap, h⟩ := HP.out; exact h.c2
    cases gk with
    | zero =>
      have hes : e2 = [] := List.eq_nil_of_length_eq_zero HJ.out
      subst hes; have HM1 := Lib.hid (show ts.map (·.1) = es from by have h := HES.out; rwa [List.append_nil] at h)
      obtain ⟨o, cap2, hpar⟩ := HP.out
      have HPAR := Lib.hid hpar; clear hpar HES HJ HP; have hpm : Lib.hasPrefix (str [69, 78, 68, 58, 86, 67, 65, 76, 69, 78, 68, 65, 82]).data.toList (⟨#[66, 69, 71, 73, 78, 58, 86, 69, 86, 69, 78, 84]⟩ : ByteArray).data.toList = false := rfl
      have HC : Hid (Calls Tryz.prog 107 #[.pointer (some ⟨p, 0, none⟩), .string ⟨#[66, 69, 71, 73, 78, 58, 86, 69, 86, 69, 78, 84]⟩] wr fun e w' => ∃ q, e = .returned (.tuple #[.string q, .bool false]) ∧ w' = wr) := Lib.hid (by
        have h1 := see_any p g o cap2 _ _ z ⟨#[66, 69, 71, 73, 78, 58, 86, 69, 86, 69, 78, 84]⟩ false wr HPAR.out
        rw [hpm] at h1
        exact h1.mono fun e w' hh => ⟨_, hh⟩)
      go_wp2_with fail
      refine HC.out.mono ?_
      rintro e wq ⟨q, rfl, hx⟩; rw [hx]
      clear hx wq HC hpm; obtain ⟨pa, ca, hva, -, hseg⟩ := HT.out.seg
      cases hva
      have hlen : ts.length ≤ 256 := by have h := congrArg List.length HM1.out; rw [List.length_map] at h; omega
      have HEVS : Hid (Evs wr.heap.size wr pu es) := Lib.hid (by rw [← HM1.out]; exact hseg.evs)
      clear hseg; have HV : Hid (∀ W, Below wr.heap.size wr W → Calls Tryz.prog 46 #[.agg #[.string n, .int .i64 v, .slice pu ts.length cu]] W fun e w' => e = .returned (.int .i64 0) ∧ Below W.heap.size W w') := Lib.hid (fun W hW => by
        have h := valid46 n v es pu cu wr.heap.size W hW.size (HEVS.out.below hW) (by omega)
        rw [HFV.out, ← HM1.out, List.length_map] at h
        exact h)
      have HWR : Hid (∀ W, Below wr.heap.size wr W → Calls Tryz.prog 100 #[.agg #[.string n, .int .i64 v, .slice pu ts.length cu], .string z] W fun e w' => ∃ g cap, e = .returned (.slice (some ⟨g, 0, none⟩) ys.length cap) ∧ StrAt w' (some ⟨g, 0, none⟩) ys ∧ Below W.heap.size W w') := Lib.hid (fun W hW => by
        have h := written100 n v pu cu es z wr.heap.size W hW.size (HEVS.out.below hW) HFV.out HZ.out ((HLW.out.below (by omega) HLB.out).below (by omega) hW) ((HPW.out.below H6.out HLB.out).below (by omega) hW) (by have := hW.size; omega)
        rw [show es.length = ts.length from by rw [← HM1.out, List.length_map]] at h
        refine h.mono ?_
        rintro e w' ⟨g2, cap2, rfl, h1, _, _, _, h2⟩; refine ⟨g2, cap2, ?_, by rw [HXS.out]; exact h1, h2⟩
        rw [HXS.out, List.length_map])
      have cf0 := HF.out.c0; have cf1 := HF.out.c1; have cf2 := HF.out.c2; go_wp2_with fail
      refine (HV.out _ (Below.refl _ _)).mono ?_
      rintro e w11 ⟨rfl, hb11⟩; have F11 := HF.out.block (hb11.block _ HF.out.lt)
      clear cf0 cf1 cf2; have cf0 := F11.c0; have cf1 := F11.c1; have cf2 := F11.c2; go_wp2_with fail
      refine (HWR.out w11 hb11).mono ?_
      rintro e w12 ⟨g2, cap2, rfl, HT2, hb12⟩; have HB12 := Lib.hid (hb11.trans (hb12.mono hb11.size))
      have hTT := Lib.hid HT2; have F12 := HF.out.block (HB12.out.block _ HF.out.lt)
      have T12 := Lib.hid (strAt_block HTX.out (HB12.out.block g (by omega)))
      clear cf0 cf1 cf2 F11 hb11 hb12 HT2; go_wp2_with fail
      refine (equal_any _ _ _ _ _ _ ys ys rfl rfl (by omega) (by omega) w12 hTT.out T12.out).mono ?_
      rintro e w13 ⟨rfl, q2, hw⟩; rw [hw, show decide (ys = ys) = true from decide_eq_true rfl]
      clear hw w13; have HB13 : Hid (Below wr.heap.size wr (w12.drewN q2)) := Lib.hid (HB12.out.trans ⟨rfl, rfl, rfl, Nat.le_refl _, fun k hk => rfl⟩)
      obtain ⟨w13, hw⟩ : ∃ w13, w13 = w12.drewN q2 := ⟨_, rfl⟩
      rw [← hw] at HB13 ⊢
      clear hw F12 T12 hTT HB12; have F13 := HF.out.block (HB13.out.block _ HF.out.lt)
      have R13 := HR.out.block (HB13.out.block _ HR.out.lt)
      have T13 := HT.out.made HB13.out
      have cf0 := F13.c0; have cf1 := F13.c1; have cf2 := F13.c2; have cr0 := R13.c0; have cr1 := R13.c1; have cr2 := R13.c2; have fr0 := R13.fr 0; have fr1 := R13.fr 1; have fr2 := R13.fr 2; go_wp2_with fail
      obtain ⟨w14, hw⟩ : ∃ w14, w14 = ((w13.setCell ⟨w.heap.size, 0, none⟩ (.string n)).setCell ⟨w.heap.size, 1, none⟩ (.int .i64 v)).setCell ⟨w.heap.size, 2, none⟩ (.slice pu ts.length cu) := ⟨_, rfl⟩
      rw [← hw]; have R14 : FeedB w.heap.size n v (.slice pu ts.length cu) w14 := by rw [hw]; exact R13.name.rev.evs
      have L14 : Below w.heap.size w w14 := by
        rw [hw]; exact (((HLB.out.trans (HB13.out.mono (by omega))).setCell (Nat.le_refl _) _).setCell (Nat.le_refl _) _).setCell (Nat.le_refl _) _
      have T14 : RowT (p + 2) w14 (.slice pu ts.length cu) ts := by
        rw [hw]; exact ((T13.set (show Blk w.heap.size _ 26 w13 from R13) (by decide) (by decide) 0 _).set (show Blk w.heap.size _ 26 _ from R13.name) (by decide) (by decide) 1 _).set (show Blk w.heap.size _ 26 _ from R13.name.rev) (by decide) (by decide) 2 _
      clear hw cf0 cf1 cf2 cr0 cr1 cr2 fr0 fr1 fr2; have cr0 := R14.c0; have cr1 := R14.c1; have cr2 := R14.c2; refine bodyPost_ret (v := .tuple #[.agg #[.string n, .int .i64 v, .slice pu ts.length cu], .int .i64 0]) (by simp [results, Tryz.results50, go_sem, cr0, cr1, cr2]) rfl ?_
      exact ⟨pu, cu, ts, HM1.out, rfl, T14.mono (by omega), L14⟩
    | succ j =>
      obtain ⟨ev, e3, rfl⟩ : ∃ ev e3, e2 = ev :: e3 := by
        cases e2 with
        | nil => exact absurd HJ.out (by simp)
        | cons a r => exact ⟨a, r, rfl⟩
      have hmem : ev ∈ es := by rw [← HES.out]; simp
      have hts : ts.length ≤ 256 := by have h := congrArg List.length HES.out; rw [List.length_append, List.length_map] at h; omega
      have HCK := Lib.hid (HEV.out ev hmem).2
      have HEB1 := Lib.hid (HEB.out ev hmem)
      clear hmem; have hpw : p < wr.heap.size := by omega
      have hpw2 : p ≤ wr.heap.size := by omega
      have HGW := Lib.hid (show g < wr.heap.size by omega)
      have HLWr := Lib.hid (HLW.out.below (by omega) HLB.out)
      have HMWr := Lib.hid ((HLB.out.cell (p := ⟨0, 0, none⟩) (show 0 < w.heap.size by omega)).trans HM.out)
      obtain ⟨L1, hl1⟩ : ∃ q, q = tailL (ev :: e3) z.data.toList := ⟨_, rfl⟩
      obtain ⟨L2, hl2⟩ : ∃ q, q = tailL e3 z.data.toList := ⟨_, rfl⟩
      have HEL := Lib.hid (show L1 = (evLines ev z.data.toList).map str ++ L2 from by rw [hl1, hl2]; exact tail_cons _ _ _)
      have HL2 := Lib.hid hl2; obtain ⟨lq, hlq⟩ := tail_head ev e3 z.data.toList
      rw [← hl1] at HP hlq
      have HHD := Lib.hid hlq; clear hl1 hl2 hlq; have HC : Hid (Calls Tryz.prog 107 #[.pointer (some ⟨p, 0, none⟩), .string ⟨#[66, 69, 71, 73, 78, 58, 86, 69, 86, 69, 78, 84]⟩] wr fun e w' => ∃ q, e = .returned (.tuple #[.string q, .bool true]) ∧ w' = wr) := Lib.hid (by
        obtain ⟨o, cap, h⟩ := HP.out
        rw [HHD.out] at h
        have h1 := see_any p g o cap _ _ z ⟨#[66, 69, 71, 73, 78, 58, 86, 69, 86, 69, 78, 84]⟩ false wr h
        rw [show (str (kEvent ++ [])).data.toList = kEvent ++ [] from rfl] at h1
        refine h1.mono ?_
        rintro e w' ⟨rfl, rfl⟩; exact ⟨_, by rw [show Lib.hasPrefix (kEvent ++ []) (⟨#[66, 69, 71, 73, 78, 58, 86, 69, 86, 69, 78, 84]⟩ : ByteArray).data.toList = true from prefix_app kEvent []], rfl⟩)
      go_wp2_with fail
      refine HC.out.mono ?_
      rintro e wq ⟨q, rfl, hx⟩; rw [hx]
      clear hx wq HC hbad; go_upto_region 19 with (fail)
      refine wp_region_tail 5 (by kernel_rfl) (fun listed a x => ∃ (l0 l1 l2 l3 l4 : Bool) (t60 t61 t62 t63 t64 : Value), listed = #[l0, l1, l2, l3, l4, false, false, false] ∧ a = ⟨(.string s :: .string z :: undef :: undef :: .pointer (some ⟨w.heap.size, 0, none⟩) :: .int .i64 0 :: .slice (some ⟨g, 0, none⟩) ys.length cap :: .bool true :: .pointer (some ⟨p, 0, none⟩) :: .pointer (some ⟨p + 1, 0, none⟩) :: .string q :: .bool true :: .string s :: .int .i64 s.size :: .bool false :: undef :: .string z :: .bool true :: .bool false :: undef :: .tuple #[.slice (some ⟨g, 0, none⟩) ys.length cap, .bool true] :: .string s :: .tuple #[.slice (some ⟨g, 0, none⟩) ys.length cap, .bool true] :: .slice (some ⟨g, 0, none⟩) ys.length cap :: .bool true :: .bool true :: .bool false :: undef :: .slice (some ⟨g, 0, none⟩) ys.length cap :: .slice (some ⟨g, 0, none⟩) ys.length cap :: .slice (some ⟨g, 0, none⟩) ys.length cap :: .string z :: .agg #[.slice (some ⟨g, 0, none⟩) ys.length cap, .string z, .bool false] :: .pointer (some ⟨p, 0, none⟩) :: .pointer (some ⟨p, 0, none⟩) :: .string (str []) :: .pointer (some ⟨p, 0, none⟩) :: .string (str [50, 46, 48]) :: .pointer (some ⟨p, 0, none⟩) :: .string (str [45, 47, 47, 116, 105, 109, 101, 116, 97, 98, 108, 101, 47, 47, 69, 78]) :: .pointer (some ⟨p, 0, none⟩) :: .string n :: .pointer (some ⟨p + 1, 0, none⟩) :: .pointer (some ⟨p, 0, none⟩) :: .pointer (some ⟨p, 0, none⟩) :: .string (str (Lib.decDigits v.toNat)) :: .int .i64 v :: .pointer (some ⟨p + 1, 1, none⟩) :: .pointer (some ⟨p, 0, none⟩) :: .pointer (some ⟨p, 0, none⟩) :: .pointer (some ⟨p, 2, none⟩) :: .bool false :: .bool true :: .tuple #[.string q, .bool true] :: .pointer (some ⟨p, 0, none⟩) :: .tuple #[.string q, .bool true] :: .string q :: .bool true :: .bool true :: .bool false :: t60 :: t61 :: t62 :: t63 :: t64 :: u65 :: u66 :: undef :: undef :: undef :: undef :: undef :: undef :: undef :: undef :: undef :: undef :: undef :: undef :: undef :: undef :: undef :: undef :: undef :: undef :: undef :: []).toArray, []⟩ ∧ Hid (l0 = true → t60 = .pointer (some ⟨p + 1, 2, none⟩)) ∧ Hid (l1 = true → t61 = .slice pu ts.length cu) ∧ Hid (l2 = true → t62 = .pointer (some ⟨p, 0, none⟩)) ∧ Hid (l3 = true → l4 = false → ∃ (pv : Option Addr) (cv : Nat) (pw : Option Addr) (cw : Nat), t63 = evVal ev (.slice pv ev.days.ex.length cv) (.slice pw ev.days.xt.length cw) ∧ RowI wr.heap.size x (.slice pv ev.days.ex.length cv) ev.days.ex ∧ RowI wr.heap.size x (.slice pw ev.days.xt.length cw) ev.days.xt) ∧ Hid (l4 = true → ∃ (pv : Option Addr) (cv : Nat) (pw : Option Addr) (cw : Nat) (gg : Nat), t64 = .slice (some ⟨gg, 0, none⟩) 1 1 ∧ wr.heap.size ≤ gg ∧ Blk gg (evCells ev (.slice pv ev.days.ex.length cv) (.slice pw ev.days.xt.length cw)) 82 x ∧ RowI wr.heap.size x (.slice pv ev.days.ex.length cv) ev.days.ex ∧ RowI wr.heap.size x (.slice pw ev.days.xt.length cw) ev.days.xt) ∧ Hid (EvS p g z L1 L2 l3 wr x)) (by decide) (by kernel_rfl) (by kernel_rfl) ?_ ?_ ?_ ?_
      · exact ⟨false, false, false, false, false, _, _, _, _, _, rfl, rfl, Lib.hid (fun h => by cases h), Lib.hid (fun h => by cases h), Lib.hid (fun h => by cases h), Lib.hid (fun h => by cases h), Lib.hid (fun h => by cases h), Lib.hid (EvS.start HP.out)⟩
      · intro listed a x hj; obtain ⟨l0, hj⟩ := hj
        obtain ⟨l1, hj⟩ := hj; obtain ⟨l2, hj⟩ := hj; obtain ⟨l3, hj⟩ := hj; obtain ⟨l4, hj⟩ := hj; obtain ⟨t60, hj⟩ := hj; obtain ⟨t61, hj⟩ := hj; obtain ⟨t62, hj⟩ := hj; obtain ⟨t63, hj⟩ := hj; obtain ⟨t64, hj⟩ := hj; obtain ⟨h1, -⟩ := hj; subst h1; exact ⟨rfl, fun k h1 h2 => by (have h2 : k < 8 := h2); rcases (show k = 5 ∨ k = 6 ∨ k = 7 by omega) with rfl | rfl | rfl <;> rfl⟩
      · intro listed a x i hj hlt hu haf; obtain ⟨l0, hj⟩ := hj
        obtain ⟨l1, hj⟩ := hj; obtain ⟨l2, hj⟩ := hj; obtain ⟨l3, hj⟩ := hj; obtain ⟨l4, hj⟩ := hj; obtain ⟨t60, hj⟩ := hj; obtain ⟨t61, hj⟩ := hj; obtain ⟨t62, hj⟩ := hj; obtain ⟨t63, hj⟩ := hj; obtain ⟨t64, hj⟩ := hj; obtain ⟨hl_, hj⟩ := hj; obtain ⟨ha_, hj⟩ := hj; obtain ⟨H0, hj⟩ := hj; obtain ⟨H1, hj⟩ := hj; obtain ⟨H2, hj⟩ := hj; obtain ⟨H3, hj⟩ := hj; obtain ⟨H4, hj⟩ := hj; have HS := hj; clear hj; subst hl_; subst ha_; rcases (show ∀ i : Nat, i < 5 → (i = 0 ∨ i = 1 ∨ i = 2 ∨ i = 3 ∨ i = 4) by decide) i hlt with rfl | rfl | rfl | rfl | rfl
        · have haf := haf _ rfl; clear haf
          have hu : l0 = false := hu
          refine wpOp_of_list_any rfl fun QQ hQ => ?_
          have hQQ := Lib.hid hQ; clear hQ; simp only [List.getElem_toArray, List.getElem_cons_zero]
          go_wp2_with fail
          exact hQQ.out _ _ ⟨true, l1, l2, l3, l4, _, _, _, _, _, rfl, rfl, Lib.hid (fun _ => rfl), H1, H2, H3, H4, HS⟩
        · have haf := haf _ rfl; have q0 : l0 = true := haf ⟨0, Go.Ground.data⟩ (by simp) rfl
          clear haf; have hu : l1 = false := hu
          have e0 := (H0.out q0)
          subst e0; clear H0; have hc := (HS.out.feed HF.out).c2
          refine wpOp_of_list_any rfl fun QQ hQ => ?_
          have hQQ := Lib.hid hQ; clear hQ; simp only [List.getElem_toArray, List.getElem_cons_zero, List.getElem_cons_succ]
          go_wp2_with fail
          exact hQQ.out _ _ ⟨l0, true, l2, l3, l4, _, _, _, _, _, rfl, rfl, Lib.hid (fun _ => rfl), Lib.hid (fun _ => rfl), H2, H3, H4, HS⟩
        · have haf := haf _ rfl; clear haf
          have hu : l2 = false := hu
          refine wpOp_of_list_any rfl fun QQ hQ => ?_
          have hQQ := Lib.hid hQ; clear hQ; simp only [List.getElem_toArray, List.getElem_cons_zero, List.getElem_cons_succ]
          go_wp2_with fail
          exact hQQ.out _ _ ⟨l0, l1, true, l3, l4, _, _, _, _, _, rfl, rfl, H0, H1, Lib.hid (fun _ => rfl), H3, H4, HS⟩
        · have haf := haf _ rfl; have q2 : l2 = true := haf ⟨2, Go.Ground.data⟩ (by simp) rfl
          clear haf; have hu : l3 = false := hu
          have e2 := (H2.out q2)
          subst e2; clear H2; refine wpOp_of_list_any rfl fun QQ hQ => ?_
          have hQQ := Lib.hid hQ; clear hQ; simp only [List.getElem_toArray, List.getElem_cons_zero, List.getElem_cons_succ]
          go_wp2_with fail
          refine (HS.out.ev hu HEL.out HGW.out hp3 HLWr.out HMWr.out HCK.out hv1 hz hpw).mono ?_
          rintro e x1 ⟨v, v2, rfl, hX, hY, hS1, hK1⟩; have hk := Kept.but hK1 hpw; have hX : RowI wr.heap.size x1 v ev.days.ex := ownsRow_mono hX HS.out.but.size
          have hY : RowI wr.heap.size x1 v2 ev.days.xt := ownsRow_mono hY HS.out.but.size
          obtain ⟨pv, cv, hv⟩ := hX.slice
          obtain ⟨pw, cw, hw⟩ := hY.slice
          subst hv; subst hw; have HX1 := Lib.hid hX; have HY1 := Lib.hid hY; have HS1 := Lib.hid hS1; clear hX hY hS1 hK1; go_wp2_with fail
          exact hQQ.out _ _ ⟨l0, l1, l2, true, l4, _, _, _, _, _, rfl, rfl, H0, H1, Lib.hid (fun _ => rfl), Lib.hid (fun _ _ => ⟨pv, cv, pw, cw, rfl, HX1.out, HY1.out⟩), Lib.hid (fun h => (by obtain ⟨pv, cv, pw, cw, gg, e, c0, c1, c2, c3⟩ := H4.out h; exact ⟨pv, cv, pw, cw, gg, e, c0, (hk _ _ _ c0 c1), (row_kept c2 hk), (row_kept c3 hk)⟩)), HS1⟩
        · have haf := haf _ rfl; have q3 : l3 = true := haf ⟨3, Go.Ground.data⟩ (by simp) rfl
          clear haf; have hu : l4 = false := hu
          obtain ⟨pv3, cv3, pw3, cw3, e3, c3_0, c3_1⟩ := (H3.out q3 hu)
          subst e3; clear H3; unfold evVal evCells
          have HX1 := Lib.hid c3_0; have HY1 := Lib.hid c3_1; clear c3_0 c3_1; refine wpOp_of_list_any rfl fun QQ hQ => ?_
          have hQQ := Lib.hid hQ; clear hQ; simp only [List.getElem_toArray, List.getElem_cons_zero, List.getElem_cons_succ]
          go_wp2_with fail
          exact hQQ.out _ _ ⟨l0, l1, l2, l3, true, _, _, _, _, _, rfl, rfl, H0, H1, H2, Lib.hid (fun _ h => by cases h), Lib.hid (fun _ => ⟨pv3, cv3, pw3, cw3, _, rfl, HS.out.but.size, Blk.new x _ _, World.ownsRow.alloc HX1.out _, World.ownsRow.alloc HY1.out _⟩), Lib.hid (HS.out.alloc _ HGW.out)⟩
      · intro listed a x hj hall; obtain ⟨l0, hj⟩ := hj
        obtain ⟨l1, hj⟩ := hj; obtain ⟨l2, hj⟩ := hj; obtain ⟨l3, hj⟩ := hj; obtain ⟨l4, hj⟩ := hj; obtain ⟨t60, hj⟩ := hj; obtain ⟨t61, hj⟩ := hj; obtain ⟨t62, hj⟩ := hj; obtain ⟨t63, hj⟩ := hj; obtain ⟨t64, hj⟩ := hj; obtain ⟨hl_, hj⟩ := hj; obtain ⟨ha_, hj⟩ := hj; obtain ⟨H0, hj⟩ := hj; obtain ⟨H1, hj⟩ := hj; obtain ⟨H2, hj⟩ := hj; obtain ⟨H3, hj⟩ := hj; obtain ⟨H4, hj⟩ := hj; have HS := hj; clear hj; subst hl_; subst ha_; have q1 : l1 = true := hall 1 (by omega)
        have q3 : l3 = true := hall 3 (by omega)
        have q4 : l4 = true := hall 4 (by omega)
        clear hall; have e1 := (H1.out q1)
        subst e1; obtain ⟨pv4, cv4, pw4, cw4, gg4, e4, c4_0, c4_1, c4_2, c4_3⟩ := (H4.out q4)
        subst e4; have HT1 := Lib.hid (HT.out.butT (Nat.lt_add_of_pos_right (by decide)) HS.out.but)
        have HF1 := HS.out.feed HF.out
        have hsz := HS.out.but.size; have hpz : p + 2 ≤ x.heap.size := Nat.le_trans hRw hsz
        have HE1 : RefT (p + 2) x (ev, (.slice pv4 ev.days.ex.length cv4), (.slice pw4 ev.days.xt.length cw4)) := ⟨HEB1.out, ownsRow_mono c4_2 hRw, ownsRow_mono c4_3 hRw⟩
        obtain ⟨o1, cap1, HP1⟩ : ∃ o cap, Par p g o cap L2 z false x := by have h := HS.out.par; rw [q3] at h; exact h
        have HK1 := HS.out.but; clear c4_2 c4_3; refine tail_any (fun a x => ∃ (t60 t61 t62 t63 t64 t65 t66 : Value), a = ⟨(.string s :: .string z :: undef :: undef :: .pointer (some ⟨w.heap.size, 0, none⟩) :: .int .i64 0 :: .slice (some ⟨g, 0, none⟩) ys.length cap :: .bool true :: .pointer (some ⟨p, 0, none⟩) :: .pointer (some ⟨p + 1, 0, none⟩) :: .string q :: .bool true :: .string s :: .int .i64 s.size :: .bool false :: undef :: .string z :: .bool true :: .bool false :: undef :: .tuple #[.slice (some ⟨g, 0, none⟩) ys.length cap, .bool true] :: .string s :: .tuple #[.slice (some ⟨g, 0, none⟩) ys.length cap, .bool true] :: .slice (some ⟨g, 0, none⟩) ys.length cap :: .bool true :: .bool true :: .bool false :: undef :: .slice (some ⟨g, 0, none⟩) ys.length cap :: .slice (some ⟨g, 0, none⟩) ys.length cap :: .slice (some ⟨g, 0, none⟩) ys.length cap :: .string z :: .agg #[.slice (some ⟨g, 0, none⟩) ys.length cap, .string z, .bool false] :: .pointer (some ⟨p, 0, none⟩) :: .pointer (some ⟨p, 0, none⟩) :: .string (str []) :: .pointer (some ⟨p, 0, none⟩) :: .string (str [50, 46, 48]) :: .pointer (some ⟨p, 0, none⟩) :: .string (str [45, 47, 47, 116, 105, 109, 101, 116, 97, 98, 108, 101, 47, 47, 69, 78]) :: .pointer (some ⟨p, 0, none⟩) :: .string n :: .pointer (some ⟨p + 1, 0, none⟩) :: .pointer (some ⟨p, 0, none⟩) :: .pointer (some ⟨p, 0, none⟩) :: .string (str (Lib.decDigits v.toNat)) :: .int .i64 v :: .pointer (some ⟨p + 1, 1, none⟩) :: .pointer (some ⟨p, 0, none⟩) :: .pointer (some ⟨p, 0, none⟩) :: .pointer (some ⟨p, 2, none⟩) :: .bool false :: .bool true :: .tuple #[.string q, .bool true] :: .pointer (some ⟨p, 0, none⟩) :: .tuple #[.string q, .bool true] :: .string q :: .bool true :: .bool true :: .bool false :: t60 :: t61 :: t62 :: t63 :: t64 :: t65 :: t66 :: undef :: undef :: undef :: undef :: undef :: undef :: undef :: undef :: undef :: undef :: undef :: undef :: undef :: undef :: undef :: undef :: undef :: undef :: undef :: []).toArray, []⟩ ∧ ∃ (pu2 : Option Addr) (cu2 : Nat) (t : Ev × Value × Value), t.1 = ev ∧ FeedB (p + 1) n v (.slice pu2 (ts.length + 1) cu2) x ∧ RowT (p + 2) x (.slice pu2 (ts.length + 1) cu2) (ts ++ [t]) ∧ (∃ o cap, Par p g o cap L2 z false x) ∧ Below p wr x ∧ p + 2 ≤ x.heap.size) ?_ fun QQ hQ => ?_
        · intro a x hpost; obtain ⟨t60, hpost⟩ := hpost
          obtain ⟨t61, hpost⟩ := hpost; obtain ⟨t62, hpost⟩ := hpost; obtain ⟨t63, hpost⟩ := hpost; obtain ⟨t64, hpost⟩ := hpost; obtain ⟨t65, hpost⟩ := hpost; obtain ⟨t66, hpost⟩ := hpost; obtain ⟨ha_, hpost⟩ := hpost; subst ha_; obtain ⟨pu2, cu2, t, p0, p1, p2, p3, p4, p5⟩ := hpost; go_wp2_with fail
          go_roundg j
          case measure => omega
          case rel =>
            refine ⟨pu2, cu2, ts ++ [t], e3, Lib.hid (by have h := HJ.out; simpa using h), Lib.hid (by rw [← HES.out, List.map_append, List.append_assoc]; simp [p0]), Lib.hid (by rw [← HL2.out]; exact p3), Lib.hid (by rw [List.length_append]; exact p1), Lib.hid (by rw [List.length_append]; exact p2), Lib.hid (HR.out.block (p4.block _ (by omega))), Lib.hid (strAt_block HTX.out (p4.block g hgp2)), Lib.hid (HLB.out.trans (p4.mono (by omega))), p5⟩
        have hQQ := Lib.hid hQ; clear hQ; simp only [List.drop_succ_cons, List.drop_zero]
        go_wp2_with (at_builtin; refine wpList_append_own_at _ rfl (.tmp 61) (.tmp 64) 22 rfl (p + 2) 82 i0 _ 13 160 Tryz.underlying22 hi hz0 hz1 hz2 rfl (by decide) _ _ _ rfl HT1.out.row ⟨gg4, 0, none⟩ 1 1 _ rfl rfl (blk_cells c4_1) (evCells_one _ _ _ _ _ _ _) (by unfold maxLen; omega) (by omega) (by omega) ?_)
        intro v' x8 hown8 hgrow _ hat; obtain ⟨p8, q8, hv8⟩ := ownsRow_len hown8
        subst hv8; have T8 := HT1.out.snoc HE1 hgrow hown8; have F8 := HF1.grownT HT1.out.row (Nat.lt_succ_self _) hgrow
        have P8 := HP1.grownT HT1.out.row (by omega) hgp2 hgrow
        have K8 := below_grownBy (HK1.below (Nat.le_refl p) hpw2) HT1.out.row (by omega) (Nat.le_trans hpw2 hsz) hgrow
        have hc := F8.c2; have hz8 := F8.fr 2; have HF9 := Lib.hid (F8.evs (ev' := .slice p8 (ts.length + 1) q8))
        have HT9 := Lib.hid (T8.set (show Blk (p + 1) _ 26 x8 from F8) (by decide) (by decide) 2 (.slice p8 (ts.length + 1) q8))
        have HP9 := Lib.hid (P8.set (show p + 1 ≠ p by omega) hfg 2 (.slice p8 (ts.length + 1) q8))
        have HK9 := Lib.hid (K8.setCell (p := ⟨p + 1, 2, none⟩) (show p ≤ p + 1 by omega) (.slice p8 (ts.length + 1) q8))
        have HZ9 := Lib.hid (show p + 2 ≤ x8.heap.size from Nat.le_trans hpz hgrow.size)
        clear hgrow hown8 hat T8 F8 P8 K8 HF1 HT1 HE1 HP1 HK1 c4_0 c4_1; go_wp2_with fail
        exact hQQ.out _ _ ⟨_, _, _, _, _, _, _, rfl, _, _, (ev, _, _), rfl, HF9.out, HT9.out, ⟨_, _, HP9.out⟩, HK9.out, by simpa [World.setCell] using HZ9.out⟩
end Go.Proofs.YtageielcdebjlaaGreatDoor
