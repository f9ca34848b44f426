/- timetableref40.Fold: its contract. The reference's Format for every feed: its contract. A reader's and a feed's events in memory. No function of the program in sight. Condition: none. -/
import Derived.Test.YtageielcdebjlaaGreatDoorUnfoldAll
import Derived.Test.YtageielcdebjlaaGreatDoorRefL
import Derived.Test.YtageielcdebjlaaGreatDoorPk27
namespace Go.Proofs.YtageielcdebjlaaGreatDoor
open Go.RowKit

set_option maxHeartbeats 4000000 in
set_option maxRecDepth 100000 in
theorem refFold_any (s : ByteArray) (w : World) (hs : s.size ≤ 17592186044416) :
    Calls Tryz.prog 42 #[.string s] w fun e w' => e = .returned (.string ⟨(Tt.fold s.data.toList).toArray⟩) ∧ w' = w := by
  have HS := Lib.hid (Lib.size_eq s)
  by_cases hlen : s.size ≤ 75
  · have hst := Lib.hid (Tt.foldGo_end s.data.toList.length 75 s.data.toList (by rw [← HS.out]; omega))
    have hli : (s.size : Int) ≤ 75 := by omega
    go_enter Tryz.func42, Tryz.ntmps42
    go_wp2_with fail
    go_ret; refine ⟨?_, rfl⟩
    have e : (⟨(Tt.fold s.data.toList).toArray⟩ : ByteArray) = s ++ ⟨#[13, 10]⟩ := by
      rw [← Lib.mk_data (s ++ ⟨#[13, 10]⟩), bs_app]
      show (⟨(Tt.foldGo s.data.toList.length 75 s.data.toList).toArray⟩ : ByteArray) = _
      rw [hst.out]
    rw [e]; rfl
  · have hst := Lib.hid (Tt.foldGo_step s.data.toList.length 75 s.data.toList (by omega) (Nat.le_refl _) (by rw [← HS.out]; omega))
    have hli : ¬ (s.size : Int) ≤ 75 := by omega
    have hl2 : (75 : Int) ≤ (s.size : Int) := by omega
    have hex1 : (s.extract 0 75).size = 75 := bs_extract_size s 0 75 (by omega)
    have hex2 : (s.extract 75 s.size).size = s.size - 75 := bs_extract_size s 75 s.size (Nat.le_refl _)
    have H1 := Lib.hid hex1; have H2 := Lib.hid hex2; clear hex1 hex2; go_enter Tryz.func42, Tryz.ntmps42
    go_wp2_with fail
    go_loopw [3, 4] (fun tv rv wr => ∃ (T R : ByteArray), tv = .string T ∧ rv = .string R ∧ wr = w ∧ R.size ≤ s.size ∧ T.size + 4 * R.size ≤ 4 * s.size ∧ Hid (T.data.toList ++ [32] ++ Tt.foldGo R.data.toList.length 74 R.data.toList = Tt.fold s.data.toList)) (fun _ rv _ => match rv with | .string t => t.size | _ => 0)
    case atStart =>
      refine ⟨_, _, rfl, rfl, rfl, by rw [H2.out]; omega, by rw [bs_size, H1.out, H2.out]; show 75 + 2 + _ ≤ _; omega, ?_⟩
      show _ = Tt.foldGo s.data.toList.length 75 s.data.toList
      rw [hst.out, bs_app, Lib.extract_from_zero, Lib.extract_to_end]
      simp
    case round =>
      obtain ⟨T, R, rfl, rfl, rfl, hR, hT, HU⟩ := hrel; have HR := Lib.hid (Lib.size_eq R)
      by_cases hlt : 74 < R.size
      · have hs2 := Lib.hid (Tt.foldGo_step R.data.toList.length 74 R.data.toList (by omega) (Nat.le_refl _) (by rw [← HR.out]; exact hlt))
        have hri : (74 : Int) < (R.size : Int) := by omega
        have hri2 : (74 : Int) ≤ (R.size : Int) := by omega
        have K1 := Lib.hid (bs_extract_size R 0 74 (by omega))
        have K2 := Lib.hid (bs_extract_size R 74 R.size (Nat.le_refl _))
        go_wp2_with fail
        go_roundw
        case rel =>
          refine ⟨_, _, rfl, rfl, by first | rfl | trivial, by rw [K2.out]; omega, by rw [bs_size, bs_size, bs_size, K1.out, K2.out]; show T.size + (1 + (74 - 0) + 2) + _ ≤ _; omega, ?_⟩
          show _ = _
          rw [← HU.out, hs2.out, bs_app, bs_app, bs_app, Lib.extract_from_zero, Lib.extract_to_end]; simp
        case measure => simp [bs_extract_size R 74 R.size]; omega
      · have hs2 := Lib.hid (Tt.foldGo_end R.data.toList.length 74 R.data.toList (by rw [← HR.out]; exact hlt))
        have hri : ¬ (74 : Int) < (R.size : Int) := by omega
        go_wp2_with fail
        go_ret; refine ⟨?_, rfl⟩
        have e : (⟨(Tt.fold s.data.toList).toArray⟩ : ByteArray) = T ++ ⟨#[32]⟩ ++ R ++ ⟨#[13, 10]⟩ := by
          rw [← Lib.mk_data (T ++ ⟨#[32]⟩ ++ R ++ ⟨#[13, 10]⟩), bs_app, bs_app, bs_app, ← HU.out, hs2.out]
          simp
        rw [e]; rfl
end Go.Proofs.YtageielcdebjlaaGreatDoor
namespace Go.Proofs.YtageielcdebjlaaGreatDoor
open Go.RowKit

theorem StrAt.below {w w' : World} {u : Value} {g c k : Nat} {xs : List ByteArray} {lo : Nat} (h : w.ownsRow lo 9 1 u k (xs.map Value.string)) (hu : u = .slice (some ⟨g, 0, none⟩) k c) (hw : Below w.heap.size w w') : ∀ j x, xs[j]? = some x → w'.cell? ⟨g, j, none⟩ = some (.string x) := by
  intro j x hj; have := (ownsRow_below h hw).cells (g := g) (by rw [hu]; rfl) j (.string x) (by rw [List.getElem?_map, hj]; rfl)
  rw [Addr.add_lit, Nat.zero_add] at this
  exact this

set_option maxRecDepth 100000 in
set_option maxHeartbeats 16000000 in
theorem format49 (n : ByteArray) (v : Int) (af : Option Addr) (cf : Nat) (es : List Ev) (z : ByteArray) (BB : Nat) (w : World) (hBB : BB ≤ w.heap.size) (hE : Evs BB w af es) (hn : es.length ≤ 4611686018427387903) :
    Calls Tryz.prog 49 #[.agg #[.string n, .int .i64 v, .slice af es.length cf], .string z] w fun e w' => e = .returned (.tuple #[.string (str (formatV n v es z).1), .int .i64 (formatV n v es z).2]) ∧ Below w.heap.size w w' := by
  obtain ⟨W0, hW0⟩ : ∃ W0, W0 = w.alloc (.cells #[.string n, .int .i64 v, .slice af es.length cf] 26) := ⟨_, rfl⟩
  have F0 := Lib.hid (show FeedAt w.heap.size n v (.slice af es.length cf) W0 from by rw [hW0]; exact alloc3 n v _ w)
  have L0 := Lib.hid (show Below w.heap.size w W0 from by rw [hW0]; exact below_box w _)
  have s0 : w.heap.size + 1 ≤ W0.heap.size := by rw [hW0]; simp
  have HE0 := Lib.hid (hE.below (L0.out.mono hBB))
  have HV := Lib.hid (valid47 n v es af cf BB W0 (by omega) HE0.out hn)
  have HR : Hid (formatV n v es z = if feedV n v es ≠ 0 then ([], feedV n v es) else if Tt.code z.data.toList = false then ([], 10) else if 262144 < ((feedT n.data.toList v es z.data.toList).length : Int) then ([], 2) else (feedT n.data.toList v es z.data.toList, 0)) := rfl
  have HWR : Hid (∀ W : World, Below W0.heap.size W0 W → feedV n v es = 0 → Tt.code z.data.toList = true → Calls Tryz.prog 52 #[.agg #[.string n, .int .i64 v, .slice af es.length cf], .string z] W fun e w' => ∃ u, e = .returned u ∧ w'.ownsRow W.heap.size 9 1 u (feedL n.data.toList v es z.data.toList).length (((feedL n.data.toList v es z.data.toList).map str).map Value.string) ∧ Below W.heap.size W w') := Lib.hid (fun W hW hv hz => lines52 n v af cf es z BB W (by have := hW.size; omega) (HE0.out.below (hW.mono (by omega))) hv hz)
  obtain ⟨m, hmm⟩ : ∃ m, m = es.length := ⟨_, rfl⟩
  rw [← hmm] at hW0 F0 HV HWR ⊢
  obtain ⟨F, hF⟩ : ∃ F, F = w.heap.size := ⟨_, rfl⟩
  rw [← hF] at F0
  have hFW : F < W0.heap.size := by omega
  have f0 := F0.out.c0; have f1 := F0.out.c1; have f2 := F0.out.c2; clear hmm hE hn HE0; go_enter Tryz.func49, Tryz.ntmps49
  go_upto_region 1 with (fail)
  rw [← hW0, ← hF]; clear hW0 hF; go_wp2_with fail
  refine HV.out.mono ?_
  rintro e w1 ⟨rfl, hb1⟩; have F1 := Lib.hid (F0.out.below hb1 hFW)
  have L1 := Lib.hid (L0.out.trans (hb1.mono (by omega)))
  have HB1 := Lib.hid hb1; have s1 : w.heap.size + 1 ≤ w1.heap.size := Nat.le_trans s0 hb1.size
  clear f0 f1 f2 hb1 HV F0 L0; obtain ⟨fv, hfv⟩ : ∃ fv, fv = feedV n v es := ⟨_, rfl⟩
  rw [← hfv]; have HFV := Lib.hid hfv; clear hfv; by_cases hz0 : fv = 0
  · have HV0 := Lib.hid (HFV.out.symm.trans hz0)
    subst hz0; go_wp2_with fail
    refine (code97 _ _).mono ?_
    rintro e w1' ⟨rfl, hw⟩; rw [hw]
    clear hw w1'; cases hz : Tt.code z.data.toList
    · have HX := Lib.hid (show formatV n v es z = ([], 10) from by rw [HR.out, if_neg (by rw [HV0.out]; decide), if_pos hz])
      go_wp2_with fail
      go_ret2
      exact ⟨by rw [HX.out]; rfl, L1.out⟩
    · have HX := Lib.hid (show formatV n v es z = if 262144 < ((feedT n.data.toList v es z.data.toList).length : Int) then ([], 2) else (feedT n.data.toList v es z.data.toList, 0) from by rw [HR.out, if_neg (by rw [HV0.out]; decide), if_neg (by rw [hz]; decide)])
      have HLI := Lib.hid (feedL_lines HV0.out hz)
      have HFT := Lib.hid (show feedT n.data.toList v es z.data.toList = ((feedL n.data.toList v es z.data.toList).map str).flatMap (fun l => Tt.fold l.data.toList) from (fold_str _).symm)
      have HW1 := Lib.hid (HWR.out w1 HB1.out HV0.out hz)
      have hpos : 0 < (feedL n.data.toList v es z.data.toList).length := by unfold feedL; rw [List.length_append]; simp
      obtain ⟨ls, hls⟩ : ∃ ls, ls = (feedL n.data.toList v es z.data.toList).map str := ⟨_, rfl⟩
      have hll : (feedL n.data.toList v es z.data.toList).length = ls.length := by rw [hls, List.length_map]
      rw [← hls] at HLI HFT HW1
      rw [hll] at HW1 hpos
      have hl4 := HLI.out.2; have HSZ := Lib.hid HLI.out.1
      have HFB := Lib.hid (flat_bound 3000 ls HSZ.out)
      clear hls hll HWR HLI; have f0 := F1.out.c0; have f1 := F1.out.c1; have f2 := F1.out.c2; go_wp2_with fail
      refine HW1.out.mono ?_
      rintro e w2 ⟨u, rfl, ho, hb2⟩; obtain ⟨g, c, hu⟩ : ∃ g c, u = .slice (some ⟨g, 0, none⟩) ls.length c := by
        rcases ho.2 with ⟨_, h0⟩ | ⟨g, cap, cur, hv, _⟩
        · omega
        · exact ⟨g, cap, hv⟩
      have HST : Hid (∀ W : World, Below w2.heap.size w2 W → ∀ j x, ls[j]? = some x → W.cell? ⟨g, j, none⟩ = some (.string x)) := Lib.hid (fun W hW => StrAt.below ho hu hW)
      have L2 := Lib.hid (L1.out.trans (hb2.mono (by omega)))
      have s2 := hb2.size; subst hu; clear f0 f1 f2 F1 L1 HB1 HW1 ho hb2; go_wp2_with fail
      go_loopw [8, 9] (fun sv i wr => ∃ (k : Nat) (s : ByteArray), k ≤ ls.length ∧ sv = .string s ∧ i = .int .i64 k ∧ s.size ≤ 4000 * 15002 ∧ Hid (s.data.toList = (ls.take k).flatMap (fun l => Tt.fold l.data.toList)) ∧ Hid (Below w2.heap.size w2 wr)) (fun _ i _ => ls.length - (intOf i).toNat)
      case atStart => exact ⟨0, ⟨#[]⟩, Nat.zero_le _, rfl, rfl, by decide, Lib.hid rfl, Lib.hid (Below.refl _ _)⟩
      case round =>
        obtain ⟨k, s, hk, rfl, rfl, hs, HS, HB⟩ := hrel; by_cases hlt : k < ls.length
        · obtain ⟨x, hx⟩ : ∃ x, ls[k]? = some x := ⟨_, List.getElem?_eq_getElem hlt⟩
          have hca := HST.out wr HB.out k x hx
          have hxs := HSZ.out x (List.mem_of_getElem? hx)
          have hlen := take_le ls (k + 1)
          have hst := format_step ls k x hx; rw [hst, ← HS.out, List.length_append, ← Lib.size_eq] at hlen
          have hlen2 : s.size + (Tt.fold x.data.toList).length ≤ 4000 * 15002 := Nat.le_trans hlen (Nat.le_trans HFB.out (Nat.mul_le_mul_right _ hl4))
          have HST2 := Lib.hid hst; clear hx hlen hst; have hki : (k : Int) < (ls.length : Int) := by omega
          go_wp2_with fail
          refine (refFold_any _ _ (by omega)).mono ?_
          rintro e w3 ⟨rfl, hw⟩; rw [hw]
          clear hw w3; obtain ⟨q, hq⟩ : ∃ q, q = (⟨(Tt.fold x.data.toList).toArray⟩ : ByteArray) := ⟨_, rfl⟩
          have zq : q.size = (Tt.fold x.data.toList).length := by rw [hq, size_mk]
          have zq2 : s.size + q.size ≤ 4000 * 15002 := by omega
          rw [← hq]; have HQ := Lib.hid (show q.data.toList = Tt.fold x.data.toList from by rw [hq])
          clear hq zq hlen2; go_wp2_with fail
          go_roundw
          case rel => exact ⟨k + 1, s ++ q, by omega, rfl, by go_num, by rw [bs_size]; exact zq2, Lib.hid (by rw [bs_app, HS.out, HQ.out, HST2.out]), HB⟩
          case measure => simp [intOf]; omega
        · have hk2 : k = ls.length := by omega
          have HAC := Lib.hid (show s.data.toList = feedT n.data.toList v es z.data.toList from by rw [HS.out, hk2, List.take_length, HFT.out])
          have HSL := Lib.hid (show ((feedT n.data.toList v es z.data.toList).length : Int) = (s.size : Int) from by rw [← HAC.out, ← Lib.size_eq])
          clear hk2; by_cases hai : (262144 : Int) < (s.size : Int)
          · have HY := Lib.hid (show formatV n v es z = ([], 2) from by rw [HX.out, if_pos (by rw [HSL.out]; exact hai)])
            go_wp2_with fail
            go_ret2
            exact ⟨by rw [HY.out]; rfl, L2.out.trans (HB.out.mono (by omega))⟩
          · have HY := Lib.hid (show formatV n v es z = (s.data.toList, 0) from by rw [HX.out, if_neg (by rw [HSL.out]; exact hai), HAC.out])
            go_wp2_with fail
            go_ret2
            exact ⟨by rw [HY.out]; exact ret_code (mk_bytes rfl), L2.out.trans (HB.out.mono (by omega))⟩
  · have hzb : (fv != 0) = true := by simp [hz0]
    have HX := Lib.hid (show formatV n v es z = ([], fv) from by rw [HR.out, if_pos (by rw [← HFV.out]; exact hz0), HFV.out])
    go_wp2_with fail
    go_ret2
    exact ⟨by rw [HX.out]; rfl, L1.out⟩
end Go.Proofs.YtageielcdebjlaaGreatDoor
namespace Go.Proofs.YtageielcdebjlaaGreatDoor
open Go.RowKit

/-- A reader's events in memory. -/
structure RdM (w : World) (ao : Option Addr) (n c : Nat) (ts : List (Ev × Value × Value)) : Prop where
  len : n = ts.length
  seg : Seg w.heap.size w ao ts
  nil : ao = none → c = 0
  cap : n ≤ c
  few : n ≤ 1000000
  ex : ∀ t ∈ ts, t.1.days.ex.length ≤ 1000000 ∧ t.1.days.xt.length ≤ 1000000
theorem RdM.below {w w' : World} {ao : Option Addr} {n c : Nat} {ts : List (Ev × Value × Value)} (h : RdM w ao n c ts) (hb : Below w.heap.size w w') : RdM w' ao n c ts := ⟨h.len, (h.seg.below hb).mono hb.size, h.nil, h.cap, h.few, h.ex⟩
/-- A feed's events in memory. -/
structure FdM (w : World) (ao : Option Addr) (n : Nat) (ts : List (Ev × Value × Value)) : Prop where
  len : n = ts.length
  seg : Seg w.heap.size w ao ts
  few : n ≤ 1000000
  ex : ∀ t ∈ ts, t.1.days.ex.length ≤ 1000000 ∧ t.1.days.xt.length ≤ 1000000
theorem FdM.below {w w' : World} {ao : Option Addr} {n : Nat} {ts : List (Ev × Value × Value)} (h : FdM w ao n ts) (hb : Below w.heap.size w w') : FdM w' ao n ts := ⟨h.len, (h.seg.below hb).mono hb.size, h.few, h.ex⟩
end Go.Proofs.YtageielcdebjlaaGreatDoor
