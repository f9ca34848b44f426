/- feed.Format for every feed: its contract. Events in a row of one's own, what they refer to in rows of its own: laid in, written over. No function of the program in sight. Condition: none. -/
import Derived.Test.YtageielcdebjlaaGreatDoorPk26
import Derived.Test.YtageielcdebjlaaGreatDoorProg
import Derived.WalkKit
import Derived.Lib.Hide
import Derived.Deep.QuietTactic
import Derived.BigQuiet
import Derived.Deep.RegionLaw
import Derived.Laws.CopyRow
import Derived.Laws.CopyOwn
import Derived.Laws.IdiomCopy
import Derived.Lib.AppendZerosOnto
import Derived.Lib.Overlaps
import Derived.Maps.AppendAt
import Derived.Laws.Externs
import Derived.Laws.NewBlocks
namespace Go.Proofs.YtageielcdebjlaaGreatDoor
open Go.RowKit

/-- The text of a feed. -/
def feedT (n : List UInt8) (v : Int) (es : List Ev) (z : List UInt8) : List UInt8 := (feedL n v es z).flatMap Tt.fold
/-- The text of a feed, or the error. -/
def formatV (n : ByteArray) (v : Int) (es : List Ev) (z : ByteArray) : List UInt8 × Int :=
  if feedV n v es ≠ 0 then ([], feedV n v es)
  else if Tt.code z.data.toList = false then ([], 10)
  else if 262144 < ((feedT n.data.toList v es z.data.toList).length : Int) then ([], 2)
  else (feedT n.data.toList v es z.data.toList, 0)
theorem fold_str (ls : List (List UInt8)) : (ls.map str).flatMap (fun l => Tt.fold l.data.toList) = ls.flatMap Tt.fold := by
  induction ls with
  | nil => rfl
  | cons a r ih => rw [List.map_cons, List.flatMap_cons, List.flatMap_cons, ih]; rfl
theorem flat_bound (k : Nat) : ∀ ls : List ByteArray, (∀ x ∈ ls, x.size ≤ k) → (ls.flatMap (fun l => Tt.fold l.data.toList)).length ≤ ls.length * (5 * k + 2)
  | [], _ => Nat.zero_le _
  | a :: r, h => by
    rw [List.flatMap_cons, List.length_append, List.length_cons, Nat.succ_mul]
    have h1 := Tt.fold_length a.data.toList
    have h2 := flat_bound k r (fun x hx => h x (List.mem_cons_of_mem _ hx))
    have h3 := h a (List.mem_cons_self ..)
    rw [← Lib.size_eq] at h1
    omega
theorem line_len {e : Ev} {v : Int} {z : List UInt8} (hr : rightB e.uid.data.toList = true) (hc : checkV e v = 0) (hv : v ≤ 64) (hz : z.length ≤ 16) : ∀ l ∈ evLines e z, l.length ≤ 3000 := by
  obtain ⟨q0, q1, hsv, -, st0, st1, mi0, mi1, -, hls, hll⟩ := check_all hc
  have hss := lab_size hls; have hsl := lab_size hll; have hh := ((Tt.serV_zero e.days).1 hsv).1
  have hus := right_size hr; rw [Lib.size_eq] at hss hsl hus
  have h1 := Tt.dec_len 4 e.seq.toNat (by omega)
  have h2 := Tt.dec_len 4 e.mins.toNat (by omega)
  have h3 := rule_len hh; have h4 := Tt.stampsL_len e.start e.days.ex
  have h5 := Tt.stampsL_len e.start e.days.xt
  have h6 := Tt.esc_length e.summ.data.toList
  have h7 := Tt.esc_length e.loc.data.toList
  have h8 := hh.n; have h9 := Tt.stampL_len e.days.first e.start
  intro l hl; unfold evLines at hl
  simp only [List.mem_append] at hl
  rcases hl with ((((hl | hl) | hl) | hl) | hl) | hl
  · unfold evA at hl
    simp only [List.mem_cons, List.not_mem_nil, or_false] at hl
    rcases hl with rfl | rfl | rfl | rfl | rfl | rfl <;> (simp only [List.length_append, List.length_cons, List.length_nil]; omega)
  · unfold evX at hl
    split at hl
    · cases hl
    · rw [List.mem_singleton] at hl
      subst hl; simp only [List.length_append, List.length_cons, List.length_nil]; omega
  · unfold evR at hl
    split at hl
    · cases hl
    · rw [List.mem_singleton] at hl
      subst hl; simp only [List.length_append, List.length_cons, List.length_nil]; omega
  · unfold evS at hl
    rw [List.mem_singleton] at hl
    subst hl; simp only [List.length_append, List.length_cons, List.length_nil]; omega
  · unfold evL at hl
    split at hl
    · cases hl
    · rw [List.mem_singleton] at hl
      subst hl; simp only [List.length_append, List.length_cons, List.length_nil]; omega
  · unfold evC at hl
    simp only [List.mem_cons, List.not_mem_nil, or_false] at hl
    rcases hl with rfl | rfl
    · split <;> decide
    · decide
theorem feedL_lines {n z : ByteArray} {v : Int} {es : List Ev} (hv : feedV n v es = 0) (hz : Tt.code z.data.toList = true) : (∀ x ∈ (feedL n.data.toList v es z.data.toList).map str, x.size ≤ 3000) ∧ ((feedL n.data.toList v es z.data.toList).map str).length ≤ 4000 := by
  obtain ⟨v0, v1, hlen, hev⟩ := feedV_ok hv
  have hzs := code_size hz; have hns : n.size ≤ 16 := by
    unfold feedV at hv
    split at hv
    · cases hv
    · rename_i hc
      exact code_size (by simpa using hc)
  rw [Lib.size_eq] at hzs hns
  constructor
  · intro x hx; obtain ⟨l, hl, rfl⟩ := List.mem_map.1 hx
    rw [show (str l).size = l.length from size_mk l]
    unfold feedL headL at hl
    simp only [List.mem_append, List.mem_cons, List.not_mem_nil, or_false] at hl
    have h1 := Tt.dec_len 4 v.toNat (by omega)
    rcases hl with ((rfl | rfl | rfl | rfl | rfl) | hl) | rfl
    · decide
    · decide
    · decide
    · simp only [List.length_append, List.length_cons, List.length_nil]; omega
    · simp only [List.length_append, List.length_cons, List.length_nil]; omega
    · obtain ⟨e, he, hl⟩ := List.mem_flatMap.1 hl
      have hk := evsV_each v es none hev e he; exact line_len hk.1 hk.2 v1 hzs l hl
    · decide
  · rw [List.length_map]
    unfold feedL
    rw [List.length_append, List.length_append]
    have h1 := flat_len z.data.toList es
    have h2 : (headL n.data.toList v).length = 5 := rfl
    simp only [List.length_cons, List.length_nil]
    omega

set_option maxRecDepth 100000 in
set_option maxHeartbeats 16000000 in
theorem format48 (n : ByteArray) (v : Int) (af : Option Addr) (cf : Nat) (es : List Ev) (z : ByteArray) (BB : Nat) (w : World) (hBB : BB ≤ w.heap.size) (hE : Evs BB w af es) (hn : es.length ≤ 4611686018427387903) (hL : Lens w) (hP : Pow w) (h6 : 6 < w.heap.size) :
    Calls Tryz.prog 48 #[.agg #[.string n, .int .i64 v, .slice af es.length cf], .string z] w fun e w' => e = .returned (.tuple #[.string (str (formatV n v es z).1), .int .i64 (formatV n v es z).2]) ∧ Below w.heap.size w w' := by
  obtain ⟨W0, hW0⟩ : ∃ W0, W0 = w.alloc (.cells #[.string n, .int .i64 v, .slice af es.length cf] 26) := ⟨_, rfl⟩
  have F0 := Lib.hid (show FeedAt w.heap.size n v (.slice af es.length cf) W0 from by rw [hW0]; exact alloc3 n v _ w)
  have L0 := Lib.hid (show Below w.heap.size w W0 from by rw [hW0]; exact below_box w _)
  have s0 : w.heap.size + 1 ≤ W0.heap.size := by rw [hW0]; simp
  have HE0 := Lib.hid (hE.below (L0.out.mono hBB))
  have HV := Lib.hid (valid46 n v es af cf BB W0 (by omega) HE0.out hn)
  have HLE := Lib.hid (hL.below (by omega) L0.out)
  have HPO := Lib.hid (hP.below h6 L0.out)
  have HR : Hid (formatV n v es z = if feedV n v es ≠ 0 then ([], feedV n v es) else if Tt.code z.data.toList = false then ([], 10) else if 262144 < ((feedT n.data.toList v es z.data.toList).length : Int) then ([], 2) else (feedT n.data.toList v es z.data.toList, 0)) := rfl
  have HWR : Hid (∀ W : World, Below W0.heap.size W0 W → feedV n v es = 0 → Tt.code z.data.toList = true → Calls Tryz.prog 100 #[.agg #[.string n, .int .i64 v, .slice af es.length cf], .string z] W fun e w' => ∃ g cap, e = .returned (.slice (some ⟨g, 0, none⟩) (feedL n.data.toList v es z.data.toList).length cap) ∧ StrAt w' (some ⟨g, 0, none⟩) ((feedL n.data.toList v es z.data.toList).map str) ∧ W.heap.size ≤ g ∧ g < w'.heap.size ∧ (feedL n.data.toList v es z.data.toList).length ≤ cap ∧ Below W.heap.size W w') := Lib.hid (fun W hW hv hz => written100 n v af cf es z BB W (by have := hW.size; omega) (HE0.out.below (hW.mono (by omega))) hv hz (HLE.out.below (by omega) hW) (HPO.out.below (by omega) hW) (by have := hW.size; omega))
  obtain ⟨m, hmm⟩ : ∃ m, m = es.length := ⟨_, rfl⟩
  rw [← hmm] at hW0 F0 HV HWR ⊢
  obtain ⟨F, hF⟩ : ∃ F, F = w.heap.size := ⟨_, rfl⟩
  rw [← hF] at F0
  have hFW : F < W0.heap.size := by omega
  have f0 := F0.out.c0; have f1 := F0.out.c1; have f2 := F0.out.c2; clear hmm hE hL hP hn HE0 HLE HPO; go_enter Tryz.func48, Tryz.ntmps48
  go_upto_region 1 with (fail)
  rw [← hW0, ← hF]; clear hW0 hF; go_wp2_with fail
  refine HV.out.mono ?_
  rintro e w1 ⟨rfl, hb1⟩; have F1 := Lib.hid (F0.out.below hb1 hFW)
  have L1 := Lib.hid (L0.out.trans (hb1.mono (by omega)))
  have HB1 := Lib.hid hb1; have s1 : w.heap.size + 1 ≤ w1.heap.size := Nat.le_trans s0 hb1.size
  clear f0 f1 f2 hb1 HV F0 L0; obtain ⟨fv, hfv⟩ : ∃ fv, fv = feedV n v es := ⟨_, rfl⟩
  rw [← hfv]; have HFV := Lib.hid hfv; clear hfv; by_cases hz0 : fv = 0
  · have HV0 := Lib.hid (HFV.out.symm.trans hz0)
    subst hz0; go_wp2_with fail
    refine (code_any _ _).mono ?_
    rintro e w1' ⟨rfl, hw⟩; rw [hw]
    clear hw w1'; cases hz : Tt.code z.data.toList
    · have HX := Lib.hid (show formatV n v es z = ([], 10) from by rw [HR.out, if_neg (by rw [HV0.out]; decide), if_pos hz])
      go_wp2_with fail
      go_ret2
      exact ⟨by rw [HX.out]; rfl, L1.out⟩
    · have HX := Lib.hid (show formatV n v es z = if 262144 < ((feedT n.data.toList v es z.data.toList).length : Int) then ([], 2) else (feedT n.data.toList v es z.data.toList, 0) from by rw [HR.out, if_neg (by rw [HV0.out]; decide), if_neg (by rw [hz]; decide)])
      have HLI := Lib.hid (feedL_lines HV0.out hz)
      have HFT := Lib.hid (show feedT n.data.toList v es z.data.toList = ((feedL n.data.toList v es z.data.toList).map str).flatMap (fun l => Tt.fold l.data.toList) from (fold_str _).symm)
      have HW1 := Lib.hid (fun W hW => HWR.out W hW HV0.out hz)
      obtain ⟨ls, hls⟩ : ∃ ls, ls = (feedL n.data.toList v es z.data.toList).map str := ⟨_, rfl⟩
      have hll : (feedL n.data.toList v es z.data.toList).length = ls.length := by rw [hls, List.length_map]
      rw [← hls] at HLI HFT HW1
      rw [hll] at HW1
      have hl4 := HLI.out.2; have HSZ := Lib.hid HLI.out.1
      have HFB := Lib.hid (flat_bound 3000 ls HSZ.out)
      clear hls hll HWR HLI; have hf := Bld.fresh w1 (w1.heap.size + 1) (by omega)
      have hba := Lib.hid ((Below.refl _ w1).alloc (Nat.le_refl _) (.cells #[.pointer none, .slice none 0 0] 142))
      have F2 := Lib.hid (F1.out.below hba.out (by have := HB1.out.size; omega))
      have L2 := Lib.hid (L1.out.trans (hba.out.mono (by omega)))
      have HWX := Lib.hid (HW1.out (w1.alloc (.cells #[.pointer none, .slice none 0 0] 142)) (HB1.out.trans (hba.out.mono HB1.out.size)))
      have f0 := F2.out.c0; have f1 := F2.out.c1; have f2 := F2.out.c2; go_wp2_with fail
      refine HWX.out.mono ?_
      rintro e w2 ⟨g, cap, rfl, hstr, hg1, hg2, -, hb2⟩; have hsz2 := hb2.size; have hB : Bld w1.heap.size w2.heap.size [] w2 := by
        obtain ⟨p, v, hp, hb, _⟩ := (hf.kept hb2).ex
        refine ⟨by simp at hsz2; omega, p, .slice none 0 0, hp, ?_, World.ownsRow_nil _ _ _ _⟩
        rw [hb2.block _ (by simp), heap_alloc_new]
        have := hb
        rw [hb2.block _ (by simp), heap_alloc_new] at this
        simp at this
        rw [← this.1]
      have L3 := Lib.hid (L2.out.trans (hb2.mono (by simp; omega)))
      have s2 : w1.heap.size + 1 ≤ w2.heap.size := by simpa using hsz2
      have hgb : w1.heap.size + 1 ≤ g := by simpa using hg1
      have HSTR := Lib.hid hstr; clear f0 f1 f2 F1 F2 L1 L2 hf hb2 hsz2 hg1 hstr HW1 HWX hba HB1; go_wp2_with fail
      go_loopw [22] (fun i wr => ∃ (k : Nat) (acc : List UInt8), k ≤ ls.length ∧ i = .int .i64 k ∧ Bld w1.heap.size w2.heap.size acc wr ∧ But w1.heap.size w2.heap.size w2 wr ∧ acc.length ≤ 4000 * 15002 ∧ Hid (acc = (ls.take k).flatMap (fun l => Tt.fold l.data.toList))) (fun i _ => ls.length - (intOf i).toNat)
      case atStart => exact ⟨0, [], Nat.zero_le _, rfl, hB, But.refl _ _ _, by simp, rfl⟩
      case round =>
        obtain ⟨k, acc, hk, rfl, hBl, hbut, hacc, HA⟩ := hrel; have hsr := hbut.size; by_cases hlt : k < ls.length
        · obtain ⟨x, hx⟩ : ∃ x, ls[k]? = some x := ⟨_, List.getElem?_eq_getElem hlt⟩
          obtain ⟨a, ha, hcx⟩ := HSTR.out k x hx
          have hca : wr.cell? ⟨g, k, none⟩ = some (.string x) := by
            rw [hbut.cell (p := ⟨g, k, none⟩) hg2 (by simp; omega)]
            cases ha
            rw [addr_add] at hcx; exact hcx
          have hxs := HSZ.out x (List.mem_of_getElem? hx)
          have hlen := take_le ls (k + 1)
          have hst := format_step ls k x hx; rw [hst, ← HA.out, List.length_append] at hlen
          have hlen2 : acc.length + (Tt.fold x.data.toList).length ≤ 4000 * 15002 := Nat.le_trans hlen (Nat.le_trans HFB.out (Nat.mul_le_mul_right _ hl4))
          have HST := Lib.hid hst; clear hx ha hcx hlen hst; have hki : (k : Int) < (ls.length : Int) := by omega
          go_wp2_with fail
          refine (fold_any _ _ (by omega)).mono ?_
          rintro e w3 ⟨rfl, hb3⟩; have s3 := hb3.size; have hB3 := hBl.kept hb3; go_wp2_with fail
          refine (writeString_any _ _ _ _ _ hB3 (by rw [Lib.size_eq]; simp only []; omega) (by omega)).mono ?_
          rintro e w4 ⟨rfl, hB4, hbut4⟩; go_wp2_with fail
          go_roundw
          case rel =>
            refine ⟨k + 1, _, by omega, by go_num, hB4, hbut.trans ((But.of_below (hb3.mono (by omega))).trans hbut4), by rw [List.length_append]; exact hlen2, ?_⟩
            show _ = _
            rw [HST.out, HA.out]
          case measure => simp [intOf]; omega
        · have hk2 : k = ls.length := by omega
          have HK := Lib.hid hk2; have HAC := Lib.hid (show acc = feedT n.data.toList v es z.data.toList from by rw [HA.out, HK.out, List.take_length, HFT.out])
          clear hk2; go_wp2_with fail
          refine (len_any _ _ _ _ hBl).mono ?_
          rintro e w5 ⟨rfl, hw⟩; rw [hw]
          clear hw w5; by_cases hai : (262144 : Int) < (acc.length : Int)
          · have HY := Lib.hid (show formatV n v es z = ([], 2) from by rw [HX.out, if_pos (by rw [← HAC.out]; exact hai)])
            go_wp2_with fail
            go_ret2
            exact ⟨by rw [HY.out]; rfl, L3.out.trans (hbut.below (by omega) (by omega))⟩
          · have HY := Lib.hid (show formatV n v es z = (acc, 0) from by rw [HX.out, if_neg (by rw [← HAC.out]; exact hai), HAC.out])
            go_wp2_with fail
            refine (string_any _ _ _ _ hBl).mono ?_
            rintro e w6 ⟨rfl, hb6⟩; go_wp2_with fail
            go_ret2
            exact ⟨by rw [HY.out]; rfl, (L3.out.trans (hbut.below (by omega) (by omega))).trans (hb6.mono (by omega))⟩
  · have hzb : (fv != 0) = true := by simp [hz0]
    have HX := Lib.hid (show formatV n v es z = ([], fv) from by rw [HR.out, if_pos (by rw [← HFV.out]; exact hz0), HFV.out])
    go_wp2_with fail
    go_ret2
    exact ⟨by rw [HX.out]; rfl, L1.out⟩
end Go.Proofs.YtageielcdebjlaaGreatDoor
namespace Go.Proofs.YtageielcdebjlaaGreatDoor
open Go.RowKit

def RefT (lo : Nat) (w : World) (t : Ev × Value × Value) : Prop := EvB t.1 ∧ RowI lo w t.2.1 t.1.days.ex ∧ RowI lo w t.2.2 t.1.days.xt
/-- Events in a row of one's own. -/
structure RowT (lo : Nat) (w : World) (v : Value) (ts : List (Ev × Value × Value)) : Prop where
  row : w.ownsRow lo 82 13 v ts.length (tCells ts)
  ref : ∀ t ∈ ts, RefT lo w t
theorem RowE.t {lo : Nat} {w : World} {v : Value} {ts : List (Ev × Value × Value)} (h : RowE lo w v ts) : RowT lo w v ts := ⟨h.row, fun t ht => ⟨(h.ref t ht).1.b, (h.ref t ht).2⟩⟩
theorem RefT.s {lo : Nat} {w : World} {t : Ev × Value × Value} (h : RefT lo w t) : RefS w.heap.size w t := by
  obtain ⟨hg, hx, hy⟩ := h; obtain ⟨ax, cx, e1, i1⟩ := hx.ints
  obtain ⟨ay, cy, e2, i2⟩ := hy.ints
  exact ⟨hg, ⟨ax, cx, e1, i1⟩, ⟨ay, cy, e2, i2⟩⟩
theorem RowT.seg {lo : Nat} {w : World} {v : Value} {ts : List (Ev × Value × Value)} (h : RowT lo w v ts) : ∃ ao c, v = .slice ao ts.length c ∧ (ao = none → c = 0) ∧ Seg w.heap.size w ao ts := by
  have hr : ∀ t ∈ ts, RefS w.heap.size w t := fun t ht => (h.ref t ht).s
  rcases h.row.2 with ⟨hv, h0⟩ | ⟨g, cap, cur, hv, r2, r3, r4, r5, _⟩
  · have : ts = [] := List.eq_nil_of_length_eq_zero h0
    subst this; exact ⟨none, 0, hv, fun _ => rfl, Seg.nil _ _ _⟩
  · refine ⟨_, cap, hv, fun e => (by cases e), .inr ⟨g, 0, rfl, (Array.getElem?_eq_some_iff.1 r3).1, fun j u hj => ?_⟩, hr⟩
    have := h.row.cells (g := g) (by rw [hv]; rfl) j u hj
    rw [Addr.add_lit] at this
    exact this
theorem RowT.nil (lo : Nat) (w : World) : RowT lo w (.slice none 0 0) [] := ⟨World.ownsRow_nil _ _ _ _, fun t h => by cases h⟩
theorem RefT.mono {lo lo' : Nat} {w : World} {t : Ev × Value × Value} (h : RefT lo w t) (hb : lo' ≤ lo) : RefT lo' w t := ⟨h.1, ownsRow_mono h.2.1 hb, ownsRow_mono h.2.2 hb⟩
theorem RowT.mono {lo lo' : Nat} {w : World} {v : Value} {ts : List (Ev × Value × Value)} (h : RowT lo w v ts) (hb : lo' ≤ lo) : RowT lo' w v ts := ⟨ownsRow_mono h.row hb, fun t ht => (h.ref t ht).mono hb⟩
theorem RefT.made {lo : Nat} {w w' : World} {t : Ev × Value × Value} (h : RefT lo w t) (hb : Below w.heap.size w w') : RefT lo w' t := ⟨h.1, row_made h.2.1 hb, row_made h.2.2 hb⟩
theorem RowT.made {lo : Nat} {w w' : World} {v : Value} {ts : List (Ev × Value × Value)} (h : RowT lo w v ts) (hb : Below w.heap.size w w') : RowT lo w' v ts := ⟨row_made h.row hb, fun t ht => (h.ref t ht).made hb⟩
theorem RefT.set {lo : Nat} {w : World} {t : Ev × Value × Value} (h : RefT lo w t) {g : Nat} {cs : Array Value} {ty : TypeId} (hg : Blk g cs ty w) (hte : ty ≠ 3) (i : Nat) (u : Value) : RefT lo (w.setCell ⟨g, i, none⟩ u) t := ⟨h.1, row_set h.2.1 hg hte i u, row_set h.2.2 hg hte i u⟩
theorem RowT.set {lo : Nat} {w : World} {v : Value} {ts : List (Ev × Value × Value)} (h : RowT lo w v ts) {g : Nat} {cs : Array Value} {ty : TypeId} (hg : Blk g cs ty w) (hte : ty ≠ 3) (hte2 : ty ≠ 82) (i : Nat) (u : Value) : RowT lo (w.setCell ⟨g, i, none⟩ u) v ts := ⟨row_set h.row hg hte2 i u, fun t ht => (h.ref t ht).set hg hte i u⟩
theorem RefT.alloc {lo : Nat} {w : World} {t : Ev × Value × Value} (h : RefT lo w t) (o : Obj) : RefT lo (w.alloc o) t := ⟨h.1, World.ownsRow.alloc h.2.1 o, World.ownsRow.alloc h.2.2 o⟩
theorem RowT.alloc {lo : Nat} {w : World} {v : Value} {ts : List (Ev × Value × Value)} (h : RowT lo w v ts) (o : Obj) : RowT lo (w.alloc o) v ts := ⟨h.row.alloc o, fun t ht => (h.ref t ht).alloc o⟩
theorem RefT.grown {lo B n k : Nat} {w w' : World} {t : Ev × Value × Value} {v : Value} {xs : List Value} (h : RefT lo w t) (hown : w.ownsRow B 82 k v n xs) (hg : w.grownBy w' v.ownBlock) : RefT lo w' t :=
  ⟨h.1, World.ownsRow.kept h.2.1 hg (row_apart_ty h.2.1 hown (by decide)), World.ownsRow.kept h.2.2 hg (row_apart_ty h.2.2 hown (by decide))⟩
theorem RowT.one {lo : Nat} {w : World} {v : Value} {ts : List (Ev × Value × Value)} (h : RowT lo w v ts) : ∀ u ∈ tCells ts, u.oneCell' = true := by
  obtain ⟨ao, c, _, _, hs⟩ := h.seg
  exact hs.one
/-- The row behind a change that leaves other cells: what they refer to is as it was. -/
theorem RowT.changed {lo : Nat} {w w' : World} {v v' : Value} {ts us : List (Ev × Value × Value)} (h : RowT lo w v ts) (hg : w.grownBy w' v.ownBlock) (hu : ∀ t ∈ us, t ∈ ts ∨ RefT lo w t) (hrow : w'.ownsRow lo 82 13 v' us.length (tCells us)) : RowT lo w' v' us :=
  ⟨hrow, fun t ht => (hu t ht).elim (fun k => (h.ref t k).grown h.row hg) (fun k => k.grown h.row hg)⟩
theorem RowT.snoc {lo : Nat} {w w' : World} {v v' : Value} {ts : List (Ev × Value × Value)} {t : Ev × Value × Value} (h : RowT lo w v ts) (ht : RefT lo w t) (hg : w.grownBy w' v.ownBlock)
    (hrow : w'.ownsRow lo 82 13 v' (ts.length + 1) (tCells ts ++ (evCells t.1 t.2.1 t.2.2).toList)) : RowT lo w' v' (ts ++ [t]) := by
  refine h.changed hg (fun s hs => ?_) ?_
  · rcases List.mem_append.1 hs with k | k
    · exact .inl k
    · rw [List.mem_singleton.1 k]; exact .inr ht
  · rw [tCells_snoc, List.length_append]
    exact hrow
/-- A row of one's own changed: the blocks below are as they were. -/
theorem below_grownBy {B B' k n : Nat} {w0 w w' : World} {e : TypeId} {v : Value} {xs : List Value} (hb : Below B w0 w) (hown : w.ownsRow B' e k v n xs) (hB : B ≤ B') (hs : B ≤ w.heap.size) (hg : w.grownBy w' v.ownBlock) : Below B w0 w' := by
  refine hb.trans ⟨hg.os, hg.tape, hg.output, hg.size, fun j hj => hg.block j (by omega) (fun he => ?_)⟩
  have := (hown.lt j he.symm).1
  omega

/-- What is seen of one event in a row of one's own. -/
theorem RowT.ev {lo n c g : Nat} {w : World} {ts : List (Ev × Value × Value)} (h : RowT lo w (.slice (some ⟨g, 0, none⟩) n c) ts) (j : Nat) (t : Ev × Value × Value) (ht : ts[j]? = some t) : EvC g (j * 13) t.1 t.2.1 t.2.2 w := by
  have h0 := seg_c (w := w) (b := g) (o := 0) (ts := ts) (fun j u hj => by
    have := h.row.cells (g := g) rfl j u hj
    rw [Addr.add_lit] at this
    exact this) j t ht
  rw [Nat.zero_add] at h0
  exact h0
end Go.Proofs.YtageielcdebjlaaGreatDoor
