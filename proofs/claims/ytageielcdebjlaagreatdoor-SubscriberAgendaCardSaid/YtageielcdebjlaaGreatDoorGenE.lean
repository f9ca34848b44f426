/- timetablemore.Event: its contract: an event without fault in new memory, with bounds. -/
import Derived.Test.YtageielcdebjlaaGreatDoorPk6
import Derived.Test.YtageielcdebjlaaGreatDoorPk7
namespace Go.Proofs.YtageielcdebjlaaGreatDoor
open Go.RowKit

/-- The bounds of a drawn event. -/
structure EvG (e : Ev) : Prop where
  ex : e.days.ex.length ≤ 2000
  xt : e.days.xt.length ≤ 2000
  uid : e.uid.size ≤ 1000
  summ : e.summ.size ≤ 1000
  loc : e.loc.size ≤ 1000
theorem EvG.b {e : Ev} (h : EvG e) : EvB e := ⟨by have := h.ex; omega, by have := h.xt; omega, by have := h.uid; omega, by have := h.summ; omega, by have := h.loc; omega⟩

theorem check_of {e : Ev} {v : Int} (h0 : 1 ≤ e.seq) (h1 : e.seq ≤ v) (h2 : Tt.serV e.days = 0) (h3 : Tt.serDays e.days ≠ []) (h4 : 0 ≤ e.start) (h5 : e.start < 1440) (h6 : 1 ≤ e.mins) (h7 : e.mins ≤ 1440) (h8 : e.summ.size ≠ 0) (h9 : Tt.labB e.summ.data.toList = true) (h10 : Tt.labB e.loc.data.toList = true) : checkV e v = 0 := by
  unfold checkV
  rw [if_neg (by omega), if_neg (by simp [h2]), if_neg h3, if_neg (by omega), if_neg (by simp [h8, h9, h10])]
theorem lab_of (sg x : List UInt8) (h : ∀ c ∈ x, c ∈ sg) (hl : x.length ≤ 64) (hs : sg.all Tt.labC = true) : Tt.labB x = true := by
  unfold Tt.labB
  rw [decide_eq_true hl, Bool.and_true, List.all_eq_true]
  exact fun c hc => List.all_eq_true.1 hs c (h c hc)
theorem lab_c (x : List UInt8) (hx : (x.length : Int) ≤ 9) (h : ∀ c ∈ x, c ∈ (⟨#[97, 98, 32, 44, 59, 92, 10]⟩ : ByteArray).data.toList) : Tt.labB (⟨#[99]⟩ ++ ByteArray.mk x.toArray : ByteArray).data.toList = true ∧ (⟨#[99]⟩ ++ ByteArray.mk x.toArray : ByteArray).size ≠ 0 := by
  constructor
  · rw [ByteArray.data_append, Array.toList_append]
    refine lab_of [99, 97, 98, 32, 44, 59, 92, 10] _ (fun c hc => ?_) (by simp; omega) (by decide)
    rcases List.mem_append.1 hc with hc | hc
    · have : c = 99 := by simpa using hc
      subst this; simp
    · have := h c (by simpa using hc)
      exact List.mem_cons_of_mem _ this
  · rw [ByteArray.size_append]; have : (ByteArray.mk #[99]).size = 1 := rfl; omega

set_option maxHeartbeats 16000000 in
set_option maxRecDepth 100000 in
theorem event78v (b : Nat) (u : ByteArray) (n : Int) (w : World) (hd : Dice b w) (hu : u.size ≤ 1000) (n0 : 1 ≤ n) (n1 : n ≤ 1000) :
    Calls Tryz.prog 78 #[.pointer (some ⟨b, 0, none⟩), .string u, .int .i64 n] w fun e w' => ∃ (ev : Ev) (v v' : Value), e = .returned (evVal ev v v') ∧ EvG ev ∧ ev.uid = u ∧ checkV ev n = 0 ∧ SerG ev.days ∧ RowI w.heap.size w' v ev.days.ex ∧ RowI w.heap.size w' v' ev.days.xt ∧ Dice b w' ∧ But b w.heap.size w w' := by
  have hblt := hd.lt; have hRb : w.heap.size ≠ b := by omega
  have R0 := Blk.new w #[.string ⟨#[]⟩, .int .i64 0, .bool false, .int .i64 0, .int .i64 0, .int .i64 0, .int .i64 0, .slice none 0 0, .slice none 0 0, .int .i64 0, .int .i64 0, .string ⟨#[]⟩, .string ⟨#[]⟩] 82
  have K0 := but_alloc (But.refl b w.heap.size w) (Nat.le_refl _) (.cells #[.string ⟨#[]⟩, .int .i64 0, .bool false, .int .i64 0, .int .i64 0, .int .i64 0, .int .i64 0, .slice none 0 0, .slice none 0 0, .int .i64 0, .int .i64 0, .string ⟨#[]⟩, .string ⟨#[]⟩] 82)
  go_enter Tryz.func78, Tryz.ntmps78
  go_wp2_with fail
  refine (next_any b n _ (hd.kept hblt (below_box _ _)) (by omega) (by omega)).mono ?_
  rintro e w1 ⟨a1, rfl, h0, h1, -, hd1, ho1⟩; have h1 := h1 n0; have R1 := R0.only ho1 hRb; have K1 := but_only K0 ho1; clear ho1 R0 K0; go_wp2_with fail
  refine (one_any b 5 _ hd1 (by omega) (by omega)).mono ?_
  rintro e w2 ⟨a2, rfl, hd2, ho2⟩; have R2 := R1.only ho2 hRb; have K2 := but_only K1 ho2; clear ho2 hd1 R1 K1; go_wp2_with fail
  refine (series152v b _ hd2).mono ?_
  rintro e w3 ⟨s, v, v', rfl, X3, T3, HSG, hsv, hd3, ho3⟩; have HSV := Lib.hid hsv; clear hsv; have hsz2 := K2.size; have R3 := R2.but ho3 hRb; have K3 := but_then K2 ho3 hsz2; have X3 : RowI w.heap.size w3 v s.ex := ownsRow_mono X3 hsz2
  have T3 : RowI w.heap.size w3 v' s.xt := ownsRow_mono T3 hsz2
  clear ho3 hd2 R2 K2 hsz2; obtain ⟨p1, q1, hv⟩ := X3.slice
  obtain ⟨p2, q2, hv'⟩ := T3.slice
  subst hv; subst hv'; unfold serVal
  go_wp2_with fail
  refine (next_any b 1440 _ hd3 (by omega) (by omega)).mono ?_
  rintro e w4 ⟨a3, rfl, k0, k1, -, hd4, ho4⟩; have k1 := k1 (by omega)
  have R4 := R3.only ho4 hRb; have K4 := but_only K3 ho4; have X4 := ownsRow_only X3 hblt ho4; have T4 := ownsRow_only T3 hblt ho4; clear ho4 hd3 R3 K3 X3 T3; go_wp2_with fail
  refine (next_any b 200 _ hd4 (by omega) (by omega)).mono ?_
  rintro e w5 ⟨a4, rfl, m0, m1, -, hd5, ho5⟩; have m1 := m1 (by omega)
  have R5 := R4.only ho5 hRb; have K5 := but_only K4 ho5; have X5 := ownsRow_only X4 hblt ho5; have T5 := ownsRow_only T4 hblt ho5; clear ho5 hd4 R4 K4 X4 T4; go_wp2_with fail
  refine (text_any b ⟨#[97, 98, 32, 44, 59, 92, 10]⟩ 9 _ hd5 (by decide) (by decide) (by omega) (by omega)).mono ?_
  rintro e w6 ⟨x, rfl, hx, hxc, hd6, ho6⟩; have hyl := lab_c x hx hxc; clear hxc; have hsz5 := K5.size; have R6 := R5.but ho6 hRb; have K6 := but_then K5 ho6 hsz5; have X6 := row_but X5 hblt ho6; have T6 := row_but T5 hblt ho6; clear ho6 hd5 R5 K5 X5 T5 hsz5; have hxs : (ByteArray.mk x.toArray).size ≤ 9 := by rw [Lib.size_eq]; simp; omega
  clear hx; generalize ByteArray.mk x.toArray = y at hxs hyl ⊢
  go_wp2_with fail
  have hRS := R6.lt; have S7 : Blk w6.heap.size (evCells ⟨u, 1 + a1, a2, s, a3, 1 + a4, ⟨#[99]⟩ ++ y, ⟨#[]⟩⟩ (.slice p1 s.ex.length q1) (.slice p2 s.xt.length q2)) 82 (w6.alloc (.cells (evCells ⟨u, 1 + a1, a2, s, a3, 1 + a4, ⟨#[99]⟩ ++ y, ⟨#[]⟩⟩ (.slice p1 s.ex.length q1) (.slice p2 s.xt.length q2)) 82)) := Blk.new w6 _ 82
  have R7 := R6.alloc (.cells (evCells ⟨u, 1 + a1, a2, s, a3, 1 + a4, ⟨#[99]⟩ ++ y, ⟨#[]⟩⟩ (.slice p1 s.ex.length q1) (.slice p2 s.xt.length q2)) 82)
  have K7 := but_alloc K6 K6.size (.cells (evCells ⟨u, 1 + a1, a2, s, a3, 1 + a4, ⟨#[99]⟩ ++ y, ⟨#[]⟩⟩ (.slice p1 s.ex.length q1) (.slice p2 s.xt.length q2)) 82)
  have X7 := X6.alloc (.cells (evCells ⟨u, 1 + a1, a2, s, a3, 1 + a4, ⟨#[99]⟩ ++ y, ⟨#[]⟩⟩ (.slice p1 s.ex.length q1) (.slice p2 s.xt.length q2)) 82)
  have T7 := T6.alloc (.cells (evCells ⟨u, 1 + a1, a2, s, a3, 1 + a4, ⟨#[99]⟩ ++ y, ⟨#[]⟩⟩ (.slice p1 s.ex.length q1) (.slice p2 s.xt.length q2)) 82)
  have D7 := dice_alloc hd6 (.cells (evCells ⟨u, 1 + a1, a2, s, a3, 1 + a4, ⟨#[99]⟩ ++ y, ⟨#[]⟩⟩ (.slice p1 s.ex.length q1) (.slice p2 s.xt.length q2)) 82)
  obtain ⟨S, hS⟩ : ∃ S, S = w6.heap.size := ⟨_, rfl⟩
  obtain ⟨w7, hw7⟩ : ∃ w7, w7 = w6.alloc (.cells (evCells ⟨u, 1 + a1, a2, s, a3, 1 + a4, ⟨#[99]⟩ ++ y, ⟨#[]⟩⟩ (.slice p1 s.ex.length q1) (.slice p2 s.xt.length q2)) 82) := ⟨_, rfl⟩
  rw [← hw7] at S7 R7 K7 X7 T7 D7
  rw [← hS] at S7 hRS ⊢
  unfold evCells at hw7
  simp only at hw7
  rw [← hw7]; clear hw7 hS R6 K6 X6 T6 hd6 w6; have hSR : S ≠ w.heap.size := by omega
  have hRSle : w.heap.size ≤ S := by omega
  have hSb' : b < S := by omega
  have hSb : S ≠ b := by omega
  obtain ⟨y2, hy2⟩ : ∃ y2, y2 = (⟨#[99]⟩ ++ y : ByteArray) := ⟨_, rfl⟩
  have hys : y2.size ≤ 1000 := by rw [hy2, ByteArray.size_append]; have : (ByteArray.mk #[99]).size = 1 := rfl; omega
  rw [← hy2] at S7 hyl
  have HYL := Lib.hid hyl; clear hyl; try rw [← hy2]
  clear hy2 hxs; refine (one_any b 2 _ D7 (by omega) (by omega)).mono ?_
  rintro e w8 ⟨z, rfl, hd8, ho8⟩; have S8 := S7.only ho8 hSb; have R8 := R7.only ho8 hRb; have K8 := but_only K7 ho8; have X8 := ownsRow_only X7 hblt ho8; have T8 := ownsRow_only T7 hblt ho8; clear ho8 D7 S7 R7 K7 X7 T7; cases z
  · obtain ⟨L, hL⟩ : ∃ L : ByteArray, L = ⟨#[]⟩ := ⟨_, rfl⟩
    have hLs : L.size ≤ 1000 := by rw [hL]; decide
    have HLL := Lib.hid (show Tt.labB L.data.toList = true from by rw [hL]; decide)
    rw [← hL] at S8
    clear hL; have SZ := S8; have RZ := R8; have KZ := K8; have XZ := X8; have TZ := T8; have DZ := hd8; clear S8 R8 K8 X8 T8 hd8; generalize w8 = wz at SZ RZ KZ XZ TZ DZ ⊢
    obtain ⟨c0, c1, c2, c3, c4, c5, c6, c7, c8, c9, c10, c11, c12⟩ := EvBox.c (e := ⟨u, 1 + a1, a2, s, a3, 1 + a4, y2, L⟩) SZ
    simp only [Nat.zero_add] at c0 c1 c2 c3 c4 c5 c6 c7 c8 c9 c10 c11 c12
    go_wp2_with fail
    refine (many153v s wz HSG p1 p2 q1 q2).mono ?_
    rintro e wy ⟨rfl, hby⟩; obtain ⟨cnt, hcn⟩ : ∃ cnt, cnt = Tt.manyV s := ⟨_, rfl⟩
    rw [← hcn]; have HCN := Lib.hid hcn; clear hcn; have SY := SZ.below hby SZ.lt
    have RY := RZ.below hby RZ.lt
    have XY := ownsRow_below XZ hby; have TY := ownsRow_below TZ hby; have hszz := KZ.size; have KY := but_below KZ (hby.mono hszz)
    have DY := DZ.kept DZ.lt hby
    have hszy := KY.size; clear hby SZ RZ XZ TZ KZ DZ c0 c1 c2 c3 c4 c5 c6 c7 c8 c9 c10 c11 c12; obtain ⟨c0, c1, c2, c3, c4, c5, c6, c7, c8, c9, c10, c11, c12⟩ := EvBox.c (e := ⟨u, 1 + a1, a2, s, a3, 1 + a4, y2, L⟩) SY
    simp only [Nat.zero_add] at c0 c1 c2 c3 c4 c5 c6 c7 c8 c9 c10 c11 c12
    by_cases hc : cnt = 0
    · subst hc; obtain ⟨f0, f1, f2, f3, f4, f5, f6, f7, f8, f9, f10, f11, f12⟩ : (wy.frozen? ⟨S, 0, none⟩ = false) ∧ (wy.frozen? ⟨S, 1, none⟩ = false) ∧ (wy.frozen? ⟨S, 2, none⟩ = false) ∧ (wy.frozen? ⟨S, 3, none⟩ = false) ∧ (wy.frozen? ⟨S, 4, none⟩ = false) ∧ (wy.frozen? ⟨S, 5, none⟩ = false) ∧ (wy.frozen? ⟨S, 6, none⟩ = false) ∧ (wy.frozen? ⟨S, 7, none⟩ = false) ∧ (wy.frozen? ⟨S, 8, none⟩ = false) ∧ (wy.frozen? ⟨S, 9, none⟩ = false) ∧ (wy.frozen? ⟨S, 10, none⟩ = false) ∧ (wy.frozen? ⟨S, 11, none⟩ = false) ∧ (wy.frozen? ⟨S, 12, none⟩ = false) := ⟨SY.frozen _, SY.frozen _, SY.frozen _, SY.frozen _, SY.frozen _, SY.frozen _, SY.frozen _, SY.frozen _, SY.frozen _, SY.frozen _, SY.frozen _, SY.frozen _, SY.frozen _⟩
      have hSlt := SY.lt; go_upto_region 6 with (fail)
      have SQ := (Blk.puts [.int .i64 s.first, .int .i64 s.last, .int .i64 1, .int .i64 0, .slice none 0 0, .slice (some ⟨wy.heap.size, 0, none⟩) 1 1] [.string u, .int .i64 (1 + a1), .bool a2] [.int .i64 s.first, .int .i64 s.last, .int .i64 s.every, .int .i64 s.wd, .slice p1 s.ex.length q1, .slice p2 s.xt.length q2] [.int .i64 a3, .int .i64 (1 + a4), .string y2, .string L] _ SY rfl).alloc (.cells #[.int .i64 s.first] 3)
      have RQ := (Blk.puts_other hSR.symm [.int .i64 s.first, .int .i64 s.last, .int .i64 1, .int .i64 0, .slice none 0 0, .slice (some ⟨wy.heap.size, 0, none⟩) 1 1] 3 _ RY).alloc (.cells #[.int .i64 s.first] 3)
      have XQ : ((setAll wy S 3 [.int .i64 s.first, .int .i64 s.last, .int .i64 1, .int .i64 0, .slice none 0 0, .slice (some ⟨wy.heap.size, 0, none⟩) 1 1]).alloc (.cells #[.int .i64 s.first] 3)).ownsRow w.heap.size 3 1 (.slice none 0 0) 0 [] := World.ownsRow_nil _ _ _ _
      have TQ := RowI.one w.heap.size (setAll wy S 3 [.int .i64 s.first, .int .i64 s.last, .int .i64 1, .int .i64 0, .slice none 0 0, .slice (some ⟨wy.heap.size, 0, none⟩) 1 1]) s.first (by rw [size_setAll]; exact hszy)
      rw [size_setAll] at TQ
      have DQ := dice_alloc (dice_setAll hSb' [.int .i64 s.first, .int .i64 s.last, .int .i64 1, .int .i64 0, .slice none 0 0, .slice (some ⟨wy.heap.size, 0, none⟩) 1 1] 3 _ DY) (.cells #[.int .i64 s.first] 3)
      have KQ := but_alloc (but_setAll hRSle [.int .i64 s.first, .int .i64 s.last, .int .i64 1, .int .i64 0, .slice none 0 0, .slice (some ⟨wy.heap.size, 0, none⟩) 1 1] 3 _ KY) (by rw [size_setAll]; exact hszy) (.cells #[.int .i64 s.first] 3)
      obtain ⟨wq, hwq⟩ : ∃ wq, wq = ((setAll wy S 3 [.int .i64 s.first, .int .i64 s.last, .int .i64 1, .int .i64 0, .slice none 0 0, .slice (some ⟨wy.heap.size, 0, none⟩) 1 1]).alloc (.cells #[.int .i64 s.first] 3)) := ⟨_, rfl⟩
      rw [show ([Value.string u, .int .i64 (1 + a1), .bool a2] : List Value).length = 3 from rfl] at SQ
      rw [← hwq] at SQ RQ XQ TQ DQ KQ
      change Code.wp _ _ _ _ ((setAll wy S 3 [.int .i64 s.first, .int .i64 s.last, .int .i64 1, .int .i64 0, .slice none 0 0, .slice (some ⟨wy.heap.size, 0, none⟩) 1 1]).alloc (.cells #[.int .i64 s.first] 3))
      rw [← hwq]; clear hwq SY RY XY TY DY KY c0 c1 c2 c3 c4 c5 c6 c7 c8 c9 c10 c11 c12 f0 f1 f2 f3 f4 f5 f6 f7 f8 f9 f10 f11 f12; obtain ⟨c0, c1, c2, c3, c4, c5, c6, c7, c8, c9, c10, c11, c12⟩ := EvBox.c (e := ⟨u, 1 + a1, a2, ⟨s.first, s.last, 1, 0, [], [s.first]⟩, a3, 1 + a4, y2, L⟩) (v := (.slice none 0 0)) (v' := (.slice (some ⟨wy.heap.size, 0, none⟩) 1 1)) SQ
      simp only [Nat.zero_add] at c0 c1 c2 c3 c4 c5 c6 c7 c8 c9 c10 c11 c12
      obtain ⟨r0, r1, r2, r3, r4, r5, r6, r7, r8, r9, r10, r11, r12⟩ := EvBox.c (e := ⟨⟨#[]⟩, 0, false, ⟨0, 0, 0, 0, [], []⟩, 0, 0, ⟨#[]⟩, ⟨#[]⟩⟩) (v := .slice none 0 0) (v' := .slice none 0 0) RQ
      simp only [Nat.zero_add] at r0 r1 r2 r3 r4 r5 r6 r7 r8 r9 r10 r11 r12
      obtain ⟨f0, f1, f2, f3, f4, f5, f6, f7, f8, f9, f10, f11, f12⟩ : (wq.frozen? ⟨w.heap.size, 0, none⟩ = false) ∧ (wq.frozen? ⟨w.heap.size, 1, none⟩ = false) ∧ (wq.frozen? ⟨w.heap.size, 2, none⟩ = false) ∧ (wq.frozen? ⟨w.heap.size, 3, none⟩ = false) ∧ (wq.frozen? ⟨w.heap.size, 4, none⟩ = false) ∧ (wq.frozen? ⟨w.heap.size, 5, none⟩ = false) ∧ (wq.frozen? ⟨w.heap.size, 6, none⟩ = false) ∧ (wq.frozen? ⟨w.heap.size, 7, none⟩ = false) ∧ (wq.frozen? ⟨w.heap.size, 8, none⟩ = false) ∧ (wq.frozen? ⟨w.heap.size, 9, none⟩ = false) ∧ (wq.frozen? ⟨w.heap.size, 10, none⟩ = false) ∧ (wq.frozen? ⟨w.heap.size, 11, none⟩ = false) ∧ (wq.frozen? ⟨w.heap.size, 12, none⟩ = false) := ⟨RQ.frozen _, RQ.frozen _, RQ.frozen _, RQ.frozen _, RQ.frozen _, RQ.frozen _, RQ.frozen _, RQ.frozen _, RQ.frozen _, RQ.frozen _, RQ.frozen _, RQ.frozen _, RQ.frozen _⟩
      go_wp2_with fail
      have R13 := Blk.puts [.string u, .int .i64 (1 + a1), .bool a2, .int .i64 s.first, .int .i64 s.last, .int .i64 1, .int .i64 0, (.slice none 0 0), (.slice (some ⟨wy.heap.size, 0, none⟩) 1 1), .int .i64 a3, .int .i64 (1 + a4), .string y2, .string L] [] [.string ⟨#[]⟩, .int .i64 0, .bool false, .int .i64 0, .int .i64 0, .int .i64 0, .int .i64 0, .slice none 0 0, .slice none 0 0, .int .i64 0, .int .i64 0, .string ⟨#[]⟩, .string ⟨#[]⟩] [] _ RQ rfl
      have X13 := row_setAll (by decide) [.string u, .int .i64 (1 + a1), .bool a2, .int .i64 s.first, .int .i64 s.last, .int .i64 1, .int .i64 0, (.slice none 0 0), (.slice (some ⟨wy.heap.size, 0, none⟩) 1 1), .int .i64 a3, .int .i64 (1 + a4), .string y2, .string L] 0 _ _ XQ RQ
      have T13 := row_setAll (by decide) [.string u, .int .i64 (1 + a1), .bool a2, .int .i64 s.first, .int .i64 s.last, .int .i64 1, .int .i64 0, (.slice none 0 0), (.slice (some ⟨wy.heap.size, 0, none⟩) 1 1), .int .i64 a3, .int .i64 (1 + a4), .string y2, .string L] 0 _ _ TQ RQ
      have D13 := dice_setAll hblt [.string u, .int .i64 (1 + a1), .bool a2, .int .i64 s.first, .int .i64 s.last, .int .i64 1, .int .i64 0, (.slice none 0 0), (.slice (some ⟨wy.heap.size, 0, none⟩) 1 1), .int .i64 a3, .int .i64 (1 + a4), .string y2, .string L] 0 _ DQ
      have K13 := but_setAll (Nat.le_refl _) [.string u, .int .i64 (1 + a1), .bool a2, .int .i64 s.first, .int .i64 s.last, .int .i64 1, .int .i64 0, (.slice none 0 0), (.slice (some ⟨wy.heap.size, 0, none⟩) 1 1), .int .i64 a3, .int .i64 (1 + a4), .string y2, .string L] 0 _ KQ
      obtain ⟨W, hW⟩ : ∃ W, W = setAll wq w.heap.size 0 [.string u, .int .i64 (1 + a1), .bool a2, .int .i64 s.first, .int .i64 s.last, .int .i64 1, .int .i64 0, (.slice none 0 0), (.slice (some ⟨wy.heap.size, 0, none⟩) 1 1), .int .i64 a3, .int .i64 (1 + a4), .string y2, .string L] := ⟨_, rfl⟩
      rw [show ([] : List Value).length = 0 from rfl] at R13
      rw [← hW] at R13 X13 T13 D13 K13
      change bodyPost _ _ _ _ _ (setAll wq w.heap.size 0 [.string u, .int .i64 (1 + a1), .bool a2, .int .i64 s.first, .int .i64 s.last, .int .i64 1, .int .i64 0, (.slice none 0 0), (.slice (some ⟨wy.heap.size, 0, none⟩) 1 1), .int .i64 a3, .int .i64 (1 + a4), .string y2, .string L])
      rw [← hW]; clear hW RQ XQ TQ DQ KQ SQ c0 c1 c2 c3 c4 c5 c6 c7 c8 c9 c10 c11 c12 f0 f1 f2 f3 f4 f5 f6 f7 f8 f9 f10 f11 f12 r0 r1 r2 r3 r4 r5 r6 r7 r8 r9 r10 r11 r12; obtain ⟨r0, r1, r2, r3, r4, r5, r6, r7, r8, r9, r10, r11, r12⟩ := EvBox.c (e := ⟨u, 1 + a1, a2, ⟨s.first, s.last, 1, 0, [], [s.first]⟩, a3, 1 + a4, y2, L⟩) (v := (.slice none 0 0)) (v' := (.slice (some ⟨wy.heap.size, 0, none⟩) 1 1)) R13
      simp only [Nat.zero_add] at r0 r1 r2 r3 r4 r5 r6 r7 r8 r9 r10 r11 r12
      refine bodyPost_ret (v := evVal ⟨u, 1 + a1, a2, ⟨s.first, s.last, 1, 0, [], [s.first]⟩, a3, 1 + a4, y2, L⟩ (.slice none 0 0) (.slice (some ⟨wy.heap.size, 0, none⟩) 1 1)) (by simp [results, Tryz.results78, go_sem, r0, r1, r2, r3, r4, r5, r6, r7, r8, r9, r10, r11, r12, evVal, evCells]) rfl ?_
      exact ⟨⟨u, 1 + a1, a2, ⟨s.first, s.last, 1, 0, [], [s.first]⟩, a3, 1 + a4, y2, L⟩, (.slice none 0 0), (.slice (some ⟨wy.heap.size, 0, none⟩) 1 1), rfl, ⟨by simp, by simp, hu, hys, hLs⟩, rfl, check_of (e := ⟨u, 1 + a1, a2, ⟨s.first, s.last, 1, 0, [], [s.first]⟩, a3, 1 + a4, y2, L⟩) (by simp; omega) (by simp; omega) (Tt.one_valid ((Tt.serV_zero s).1 HSV.out).1).1 (Tt.one_valid ((Tt.serV_zero s).1 HSV.out).1).2 k0 k1 (by simp; omega) (by simp; omega) HYL.out.2 HYL.out.1 HLL.out, ⟨HSG.f0, HSG.f1, HSG.l1, by simp, by simp, by simp, by simp, by simp, by simp⟩, X13, T13, D13, K13⟩
    · have hcb : (cnt == 0) = false := by simp [hc]
      obtain ⟨r0, r1, r2, r3, r4, r5, r6, r7, r8, r9, r10, r11, r12⟩ := EvBox.c (e := ⟨⟨#[]⟩, 0, false, ⟨0, 0, 0, 0, [], []⟩, 0, 0, ⟨#[]⟩, ⟨#[]⟩⟩) (v := .slice none 0 0) (v' := .slice none 0 0) RY
      simp only [Nat.zero_add] at r0 r1 r2 r3 r4 r5 r6 r7 r8 r9 r10 r11 r12
      obtain ⟨f0, f1, f2, f3, f4, f5, f6, f7, f8, f9, f10, f11, f12⟩ : (wy.frozen? ⟨w.heap.size, 0, none⟩ = false) ∧ (wy.frozen? ⟨w.heap.size, 1, none⟩ = false) ∧ (wy.frozen? ⟨w.heap.size, 2, none⟩ = false) ∧ (wy.frozen? ⟨w.heap.size, 3, none⟩ = false) ∧ (wy.frozen? ⟨w.heap.size, 4, none⟩ = false) ∧ (wy.frozen? ⟨w.heap.size, 5, none⟩ = false) ∧ (wy.frozen? ⟨w.heap.size, 6, none⟩ = false) ∧ (wy.frozen? ⟨w.heap.size, 7, none⟩ = false) ∧ (wy.frozen? ⟨w.heap.size, 8, none⟩ = false) ∧ (wy.frozen? ⟨w.heap.size, 9, none⟩ = false) ∧ (wy.frozen? ⟨w.heap.size, 10, none⟩ = false) ∧ (wy.frozen? ⟨w.heap.size, 11, none⟩ = false) ∧ (wy.frozen? ⟨w.heap.size, 12, none⟩ = false) := ⟨RY.frozen _, RY.frozen _, RY.frozen _, RY.frozen _, RY.frozen _, RY.frozen _, RY.frozen _, RY.frozen _, RY.frozen _, RY.frozen _, RY.frozen _, RY.frozen _, RY.frozen _⟩
      go_wp2_with fail
      have R13 := Blk.puts [.string u, .int .i64 (1 + a1), .bool a2, .int .i64 s.first, .int .i64 s.last, .int .i64 s.every, .int .i64 s.wd, (.slice p1 s.ex.length q1), (.slice p2 s.xt.length q2), .int .i64 a3, .int .i64 (1 + a4), .string y2, .string L] [] [.string ⟨#[]⟩, .int .i64 0, .bool false, .int .i64 0, .int .i64 0, .int .i64 0, .int .i64 0, .slice none 0 0, .slice none 0 0, .int .i64 0, .int .i64 0, .string ⟨#[]⟩, .string ⟨#[]⟩] [] _ RY rfl
      have X13 := row_setAll (by decide) [.string u, .int .i64 (1 + a1), .bool a2, .int .i64 s.first, .int .i64 s.last, .int .i64 s.every, .int .i64 s.wd, (.slice p1 s.ex.length q1), (.slice p2 s.xt.length q2), .int .i64 a3, .int .i64 (1 + a4), .string y2, .string L] 0 _ _ XY RY
      have T13 := row_setAll (by decide) [.string u, .int .i64 (1 + a1), .bool a2, .int .i64 s.first, .int .i64 s.last, .int .i64 s.every, .int .i64 s.wd, (.slice p1 s.ex.length q1), (.slice p2 s.xt.length q2), .int .i64 a3, .int .i64 (1 + a4), .string y2, .string L] 0 _ _ TY RY
      have D13 := dice_setAll hblt [.string u, .int .i64 (1 + a1), .bool a2, .int .i64 s.first, .int .i64 s.last, .int .i64 s.every, .int .i64 s.wd, (.slice p1 s.ex.length q1), (.slice p2 s.xt.length q2), .int .i64 a3, .int .i64 (1 + a4), .string y2, .string L] 0 _ DY
      have K13 := but_setAll (Nat.le_refl _) [.string u, .int .i64 (1 + a1), .bool a2, .int .i64 s.first, .int .i64 s.last, .int .i64 s.every, .int .i64 s.wd, (.slice p1 s.ex.length q1), (.slice p2 s.xt.length q2), .int .i64 a3, .int .i64 (1 + a4), .string y2, .string L] 0 _ KY
      obtain ⟨W, hW⟩ : ∃ W, W = setAll wy w.heap.size 0 [.string u, .int .i64 (1 + a1), .bool a2, .int .i64 s.first, .int .i64 s.last, .int .i64 s.every, .int .i64 s.wd, (.slice p1 s.ex.length q1), (.slice p2 s.xt.length q2), .int .i64 a3, .int .i64 (1 + a4), .string y2, .string L] := ⟨_, rfl⟩
      rw [show ([] : List Value).length = 0 from rfl] at R13
      rw [← hW] at R13 X13 T13 D13 K13
      change bodyPost _ _ _ _ _ (setAll wy w.heap.size 0 [.string u, .int .i64 (1 + a1), .bool a2, .int .i64 s.first, .int .i64 s.last, .int .i64 s.every, .int .i64 s.wd, (.slice p1 s.ex.length q1), (.slice p2 s.xt.length q2), .int .i64 a3, .int .i64 (1 + a4), .string y2, .string L])
      rw [← hW]; clear hW RY XY TY DY KY SY c0 c1 c2 c3 c4 c5 c6 c7 c8 c9 c10 c11 c12 f0 f1 f2 f3 f4 f5 f6 f7 f8 f9 f10 f11 f12 r0 r1 r2 r3 r4 r5 r6 r7 r8 r9 r10 r11 r12; obtain ⟨r0, r1, r2, r3, r4, r5, r6, r7, r8, r9, r10, r11, r12⟩ := EvBox.c (e := ⟨u, 1 + a1, a2, s, a3, 1 + a4, y2, L⟩) (v := (.slice p1 s.ex.length q1)) (v' := (.slice p2 s.xt.length q2)) R13
      simp only [Nat.zero_add] at r0 r1 r2 r3 r4 r5 r6 r7 r8 r9 r10 r11 r12
      refine bodyPost_ret (v := evVal ⟨u, 1 + a1, a2, s, a3, 1 + a4, y2, L⟩ (.slice p1 s.ex.length q1) (.slice p2 s.xt.length q2)) (by simp [results, Tryz.results78, go_sem, r0, r1, r2, r3, r4, r5, r6, r7, r8, r9, r10, r11, r12, evVal, evCells]) rfl ?_
      exact ⟨⟨u, 1 + a1, a2, s, a3, 1 + a4, y2, L⟩, (.slice p1 s.ex.length q1), (.slice p2 s.xt.length q2), rfl, ⟨by have := HSG.ex; simp; omega, by have := HSG.xt; simp; omega, hu, hys, hLs⟩, rfl, check_of (e := ⟨u, 1 + a1, a2, s, a3, 1 + a4, y2, L⟩) (by simp; omega) (by simp; omega) HSV.out (fun h => hc (by rw [HCN.out]; exact Tt.many_zero HSV.out h)) k0 k1 (by simp; omega) (by simp; omega) HYL.out.2 HYL.out.1 HLL.out, HSG, X13, T13, D13, K13⟩
  · go_wp2_with fail
    refine (text_any b ⟨#[82, 49, 44, 59, 92, 32, 108, 111, 110, 103, 32, 114, 111, 111, 109, 32, 110, 97, 109, 101, 32, 111, 102, 32, 109, 97, 110, 121, 32, 119, 111, 114, 100, 115, 32]⟩ 60 _ hd8 (by decide) (by decide) (by omega) (by omega)).mono ?_
    rintro e w9 ⟨x2, rfl, hx2, hxc, hd9, ho9⟩; have hll : Tt.labB (ByteArray.mk x2.toArray).data.toList = true := lab_of _ _ (fun c hc => hxc c (by simpa using hc)) (by simp; omega) (by decide)
    clear hxc; have hsz8 := K8.size; have S9 := S8.but ho9 hSb; have R9 := R8.but ho9 hRb; have K9 := but_then K8 ho9 hsz8; have X9 := row_but X8 hblt ho9; have T9 := row_but T8 hblt ho9; clear ho9 hd8 S8 R8 K8 X8 T8 hsz8; have hLs : (ByteArray.mk x2.toArray).size ≤ 1000 := by rw [Lib.size_eq]; simp; omega
    clear hx2; generalize ByteArray.mk x2.toArray = L at hLs hll ⊢
    have HLL := Lib.hid hll; clear hll; have SZ : Blk S (evCells ⟨u, 1 + a1, a2, s, a3, 1 + a4, y2, L⟩ (.slice p1 s.ex.length q1) (.slice p2 s.xt.length q2)) 82 (w9.setCell ⟨S, 12, none⟩ (.string L)) := S9.set 12 (.string L)
    have RZ := R9.set_other hSR.symm 12 (.string L)
    have KZ := but_set (i := 12) (u := .string L) K9 hRSle
    have XZ := row_set X9 S9 (by decide) 12 (.string L)
    have TZ := row_set T9 S9 (by decide) 12 (.string L)
    have DZ := dice_set (i := 12) (u := .string L) hd9 hSb'
    have q0 := S9.cell 12; have q1f := S9.frozen 12; have q0 : w9.cell? ⟨S, 12, none⟩ = some (.string ⟨#[]⟩) := q0
    go_upto_region 4 with (fail)
    clear q0 q1f; generalize w9.setCell ⟨S, 12, none⟩ (.string L) = wz at SZ RZ KZ XZ TZ DZ ⊢
    clear S9 R9 K9 X9 T9 hd9; obtain ⟨c0, c1, c2, c3, c4, c5, c6, c7, c8, c9, c10, c11, c12⟩ := EvBox.c (e := ⟨u, 1 + a1, a2, s, a3, 1 + a4, y2, L⟩) SZ
    simp only [Nat.zero_add] at c0 c1 c2 c3 c4 c5 c6 c7 c8 c9 c10 c11 c12
    go_wp2_with fail
    refine (many153v s wz HSG p1 p2 q1 q2).mono ?_
    rintro e wy ⟨rfl, hby⟩; obtain ⟨cnt, hcn⟩ : ∃ cnt, cnt = Tt.manyV s := ⟨_, rfl⟩
    rw [← hcn]; have HCN := Lib.hid hcn; clear hcn; have SY := SZ.below hby SZ.lt
    have RY := RZ.below hby RZ.lt
    have XY := ownsRow_below XZ hby; have TY := ownsRow_below TZ hby; have hszz := KZ.size; have KY := but_below KZ (hby.mono hszz)
    have DY := DZ.kept DZ.lt hby
    have hszy := KY.size; clear hby SZ RZ XZ TZ KZ DZ c0 c1 c2 c3 c4 c5 c6 c7 c8 c9 c10 c11 c12; obtain ⟨c0, c1, c2, c3, c4, c5, c6, c7, c8, c9, c10, c11, c12⟩ := EvBox.c (e := ⟨u, 1 + a1, a2, s, a3, 1 + a4, y2, L⟩) SY
    simp only [Nat.zero_add] at c0 c1 c2 c3 c4 c5 c6 c7 c8 c9 c10 c11 c12
    by_cases hc : cnt = 0
    · subst hc; obtain ⟨f0, f1, f2, f3, f4, f5, f6, f7, f8, f9, f10, f11, f12⟩ : (wy.frozen? ⟨S, 0, none⟩ = false) ∧ (wy.frozen? ⟨S, 1, none⟩ = false) ∧ (wy.frozen? ⟨S, 2, none⟩ = false) ∧ (wy.frozen? ⟨S, 3, none⟩ = false) ∧ (wy.frozen? ⟨S, 4, none⟩ = false) ∧ (wy.frozen? ⟨S, 5, none⟩ = false) ∧ (wy.frozen? ⟨S, 6, none⟩ = false) ∧ (wy.frozen? ⟨S, 7, none⟩ = false) ∧ (wy.frozen? ⟨S, 8, none⟩ = false) ∧ (wy.frozen? ⟨S, 9, none⟩ = false) ∧ (wy.frozen? ⟨S, 10, none⟩ = false) ∧ (wy.frozen? ⟨S, 11, none⟩ = false) ∧ (wy.frozen? ⟨S, 12, none⟩ = false) := ⟨SY.frozen _, SY.frozen _, SY.frozen _, SY.frozen _, SY.frozen _, SY.frozen _, SY.frozen _, SY.frozen _, SY.frozen _, SY.frozen _, SY.frozen _, SY.frozen _, SY.frozen _⟩
      have hSlt := SY.lt; go_upto_region 6 with (fail)
      have SQ := (Blk.puts [.int .i64 s.first, .int .i64 s.last, .int .i64 1, .int .i64 0, .slice none 0 0, .slice (some ⟨wy.heap.size, 0, none⟩) 1 1] [.string u, .int .i64 (1 + a1), .bool a2] [.int .i64 s.first, .int .i64 s.last, .int .i64 s.every, .int .i64 s.wd, .slice p1 s.ex.length q1, .slice p2 s.xt.length q2] [.int .i64 a3, .int .i64 (1 + a4), .string y2, .string L] _ SY rfl).alloc (.cells #[.int .i64 s.first] 3)
      have RQ := (Blk.puts_other hSR.symm [.int .i64 s.first, .int .i64 s.last, .int .i64 1, .int .i64 0, .slice none 0 0, .slice (some ⟨wy.heap.size, 0, none⟩) 1 1] 3 _ RY).alloc (.cells #[.int .i64 s.first] 3)
      have XQ : ((setAll wy S 3 [.int .i64 s.first, .int .i64 s.last, .int .i64 1, .int .i64 0, .slice none 0 0, .slice (some ⟨wy.heap.size, 0, none⟩) 1 1]).alloc (.cells #[.int .i64 s.first] 3)).ownsRow w.heap.size 3 1 (.slice none 0 0) 0 [] := World.ownsRow_nil _ _ _ _
      have TQ := RowI.one w.heap.size (setAll wy S 3 [.int .i64 s.first, .int .i64 s.last, .int .i64 1, .int .i64 0, .slice none 0 0, .slice (some ⟨wy.heap.size, 0, none⟩) 1 1]) s.first (by rw [size_setAll]; exact hszy)
      rw [size_setAll] at TQ
      have DQ := dice_alloc (dice_setAll hSb' [.int .i64 s.first, .int .i64 s.last, .int .i64 1, .int .i64 0, .slice none 0 0, .slice (some ⟨wy.heap.size, 0, none⟩) 1 1] 3 _ DY) (.cells #[.int .i64 s.first] 3)
      have KQ := but_alloc (but_setAll hRSle [.int .i64 s.first, .int .i64 s.last, .int .i64 1, .int .i64 0, .slice none 0 0, .slice (some ⟨wy.heap.size, 0, none⟩) 1 1] 3 _ KY) (by rw [size_setAll]; exact hszy) (.cells #[.int .i64 s.first] 3)
      obtain ⟨wq, hwq⟩ : ∃ wq, wq = ((setAll wy S 3 [.int .i64 s.first, .int .i64 s.last, .int .i64 1, .int .i64 0, .slice none 0 0, .slice (some ⟨wy.heap.size, 0, none⟩) 1 1]).alloc (.cells #[.int .i64 s.first] 3)) := ⟨_, rfl⟩
      rw [show ([Value.string u, .int .i64 (1 + a1), .bool a2] : List Value).length = 3 from rfl] at SQ
      rw [← hwq] at SQ RQ XQ TQ DQ KQ
      change Code.wp _ _ _ _ ((setAll wy S 3 [.int .i64 s.first, .int .i64 s.last, .int .i64 1, .int .i64 0, .slice none 0 0, .slice (some ⟨wy.heap.size, 0, none⟩) 1 1]).alloc (.cells #[.int .i64 s.first] 3))
      rw [← hwq]; clear hwq SY RY XY TY DY KY c0 c1 c2 c3 c4 c5 c6 c7 c8 c9 c10 c11 c12 f0 f1 f2 f3 f4 f5 f6 f7 f8 f9 f10 f11 f12; obtain ⟨c0, c1, c2, c3, c4, c5, c6, c7, c8, c9, c10, c11, c12⟩ := EvBox.c (e := ⟨u, 1 + a1, a2, ⟨s.first, s.last, 1, 0, [], [s.first]⟩, a3, 1 + a4, y2, L⟩) (v := (.slice none 0 0)) (v' := (.slice (some ⟨wy.heap.size, 0, none⟩) 1 1)) SQ
      simp only [Nat.zero_add] at c0 c1 c2 c3 c4 c5 c6 c7 c8 c9 c10 c11 c12
      obtain ⟨r0, r1, r2, r3, r4, r5, r6, r7, r8, r9, r10, r11, r12⟩ := EvBox.c (e := ⟨⟨#[]⟩, 0, false, ⟨0, 0, 0, 0, [], []⟩, 0, 0, ⟨#[]⟩, ⟨#[]⟩⟩) (v := .slice none 0 0) (v' := .slice none 0 0) RQ
      simp only [Nat.zero_add] at r0 r1 r2 r3 r4 r5 r6 r7 r8 r9 r10 r11 r12
      obtain ⟨f0, f1, f2, f3, f4, f5, f6, f7, f8, f9, f10, f11, f12⟩ : (wq.frozen? ⟨w.heap.size, 0, none⟩ = false) ∧ (wq.frozen? ⟨w.heap.size, 1, none⟩ = false) ∧ (wq.frozen? ⟨w.heap.size, 2, none⟩ = false) ∧ (wq.frozen? ⟨w.heap.size, 3, none⟩ = false) ∧ (wq.frozen? ⟨w.heap.size, 4, none⟩ = false) ∧ (wq.frozen? ⟨w.heap.size, 5, none⟩ = false) ∧ (wq.frozen? ⟨w.heap.size, 6, none⟩ = false) ∧ (wq.frozen? ⟨w.heap.size, 7, none⟩ = false) ∧ (wq.frozen? ⟨w.heap.size, 8, none⟩ = false) ∧ (wq.frozen? ⟨w.heap.size, 9, none⟩ = false) ∧ (wq.frozen? ⟨w.heap.size, 10, none⟩ = false) ∧ (wq.frozen? ⟨w.heap.size, 11, none⟩ = false) ∧ (wq.frozen? ⟨w.heap.size, 12, none⟩ = false) := ⟨RQ.frozen _, RQ.frozen _, RQ.frozen _, RQ.frozen _, RQ.frozen _, RQ.frozen _, RQ.frozen _, RQ.frozen _, RQ.frozen _, RQ.frozen _, RQ.frozen _, RQ.frozen _, RQ.frozen _⟩
      go_wp2_with fail
      have R13 := Blk.puts [.string u, .int .i64 (1 + a1), .bool a2, .int .i64 s.first, .int .i64 s.last, .int .i64 1, .int .i64 0, (.slice none 0 0), (.slice (some ⟨wy.heap.size, 0, none⟩) 1 1), .int .i64 a3, .int .i64 (1 + a4), .string y2, .string L] [] [.string ⟨#[]⟩, .int .i64 0, .bool false, .int .i64 0, .int .i64 0, .int .i64 0, .int .i64 0, .slice none 0 0, .slice none 0 0, .int .i64 0, .int .i64 0, .string ⟨#[]⟩, .string ⟨#[]⟩] [] _ RQ rfl
      have X13 := row_setAll (by decide) [.string u, .int .i64 (1 + a1), .bool a2, .int .i64 s.first, .int .i64 s.last, .int .i64 1, .int .i64 0, (.slice none 0 0), (.slice (some ⟨wy.heap.size, 0, none⟩) 1 1), .int .i64 a3, .int .i64 (1 + a4), .string y2, .string L] 0 _ _ XQ RQ
      have T13 := row_setAll (by decide) [.string u, .int .i64 (1 + a1), .bool a2, .int .i64 s.first, .int .i64 s.last, .int .i64 1, .int .i64 0, (.slice none 0 0), (.slice (some ⟨wy.heap.size, 0, none⟩) 1 1), .int .i64 a3, .int .i64 (1 + a4), .string y2, .string L] 0 _ _ TQ RQ
      have D13 := dice_setAll hblt [.string u, .int .i64 (1 + a1), .bool a2, .int .i64 s.first, .int .i64 s.last, .int .i64 1, .int .i64 0, (.slice none 0 0), (.slice (some ⟨wy.heap.size, 0, none⟩) 1 1), .int .i64 a3, .int .i64 (1 + a4), .string y2, .string L] 0 _ DQ
      have K13 := but_setAll (Nat.le_refl _) [.string u, .int .i64 (1 + a1), .bool a2, .int .i64 s.first, .int .i64 s.last, .int .i64 1, .int .i64 0, (.slice none 0 0), (.slice (some ⟨wy.heap.size, 0, none⟩) 1 1), .int .i64 a3, .int .i64 (1 + a4), .string y2, .string L] 0 _ KQ
      obtain ⟨W, hW⟩ : ∃ W, W = setAll wq w.heap.size 0 [.string u, .int .i64 (1 + a1), .bool a2, .int .i64 s.first, .int .i64 s.last, .int .i64 1, .int .i64 0, (.slice none 0 0), (.slice (some ⟨wy.heap.size, 0, none⟩) 1 1), .int .i64 a3, .int .i64 (1 + a4), .string y2, .string L] := ⟨_, rfl⟩
      rw [show ([] : List Value).length = 0 from rfl] at R13
      rw [← hW] at R13 X13 T13 D13 K13
      change bodyPost _ _ _ _ _ (setAll wq w.heap.size 0 [.string u, .int .i64 (1 + a1), .bool a2, .int .i64 s.first, .int .i64 s.last, .int .i64 1, .int .i64 0, (.slice none 0 0), (.slice (some ⟨wy.heap.size, 0, none⟩) 1 1), .int .i64 a3, .int .i64 (1 + a4), .string y2, .string L])
      rw [← hW]; clear hW RQ XQ TQ DQ KQ SQ c0 c1 c2 c3 c4 c5 c6 c7 c8 c9 c10 c11 c12 f0 f1 f2 f3 f4 f5 f6 f7 f8 f9 f10 f11 f12 r0 r1 r2 r3 r4 r5 r6 r7 r8 r9 r10 r11 r12; obtain ⟨r0, r1, r2, r3, r4, r5, r6, r7, r8, r9, r10, r11, r12⟩ := EvBox.c (e := ⟨u, 1 + a1, a2, ⟨s.first, s.last, 1, 0, [], [s.first]⟩, a3, 1 + a4, y2, L⟩) (v := (.slice none 0 0)) (v' := (.slice (some ⟨wy.heap.size, 0, none⟩) 1 1)) R13
      simp only [Nat.zero_add] at r0 r1 r2 r3 r4 r5 r6 r7 r8 r9 r10 r11 r12
      refine bodyPost_ret (v := evVal ⟨u, 1 + a1, a2, ⟨s.first, s.last, 1, 0, [], [s.first]⟩, a3, 1 + a4, y2, L⟩ (.slice none 0 0) (.slice (some ⟨wy.heap.size, 0, none⟩) 1 1)) (by simp [results, Tryz.results78, go_sem, r0, r1, r2, r3, r4, r5, r6, r7, r8, r9, r10, r11, r12, evVal, evCells]) rfl ?_
      exact ⟨⟨u, 1 + a1, a2, ⟨s.first, s.last, 1, 0, [], [s.first]⟩, a3, 1 + a4, y2, L⟩, (.slice none 0 0), (.slice (some ⟨wy.heap.size, 0, none⟩) 1 1), rfl, ⟨by simp, by simp, hu, hys, hLs⟩, rfl, check_of (e := ⟨u, 1 + a1, a2, ⟨s.first, s.last, 1, 0, [], [s.first]⟩, a3, 1 + a4, y2, L⟩) (by simp; omega) (by simp; omega) (Tt.one_valid ((Tt.serV_zero s).1 HSV.out).1).1 (Tt.one_valid ((Tt.serV_zero s).1 HSV.out).1).2 k0 k1 (by simp; omega) (by simp; omega) HYL.out.2 HYL.out.1 HLL.out, ⟨HSG.f0, HSG.f1, HSG.l1, by simp, by simp, by simp, by simp, by simp, by simp⟩, X13, T13, D13, K13⟩
    · have hcb : (cnt == 0) = false := by simp [hc]
      obtain ⟨r0, r1, r2, r3, r4, r5, r6, r7, r8, r9, r10, r11, r12⟩ := EvBox.c (e := ⟨⟨#[]⟩, 0, false, ⟨0, 0, 0, 0, [], []⟩, 0, 0, ⟨#[]⟩, ⟨#[]⟩⟩) (v := .slice none 0 0) (v' := .slice none 0 0) RY
      simp only [Nat.zero_add] at r0 r1 r2 r3 r4 r5 r6 r7 r8 r9 r10 r11 r12
      obtain ⟨f0, f1, f2, f3, f4, f5, f6, f7, f8, f9, f10, f11, f12⟩ : (wy.frozen? ⟨w.heap.size, 0, none⟩ = false) ∧ (wy.frozen? ⟨w.heap.size, 1, none⟩ = false) ∧ (wy.frozen? ⟨w.heap.size, 2, none⟩ = false) ∧ (wy.frozen? ⟨w.heap.size, 3, none⟩ = false) ∧ (wy.frozen? ⟨w.heap.size, 4, none⟩ = false) ∧ (wy.frozen? ⟨w.heap.size, 5, none⟩ = false) ∧ (wy.frozen? ⟨w.heap.size, 6, none⟩ = false) ∧ (wy.frozen? ⟨w.heap.size, 7, none⟩ = false) ∧ (wy.frozen? ⟨w.heap.size, 8, none⟩ = false) ∧ (wy.frozen? ⟨w.heap.size, 9, none⟩ = false) ∧ (wy.frozen? ⟨w.heap.size, 10, none⟩ = false) ∧ (wy.frozen? ⟨w.heap.size, 11, none⟩ = false) ∧ (wy.frozen? ⟨w.heap.size, 12, none⟩ = false) := ⟨RY.frozen _, RY.frozen _, RY.frozen _, RY.frozen _, RY.frozen _, RY.frozen _, RY.frozen _, RY.frozen _, RY.frozen _, RY.frozen _, RY.frozen _, RY.frozen _, RY.frozen _⟩
      go_wp2_with fail
      have R13 := Blk.puts [.string u, .int .i64 (1 + a1), .bool a2, .int .i64 s.first, .int .i64 s.last, .int .i64 s.every, .int .i64 s.wd, (.slice p1 s.ex.length q1), (.slice p2 s.xt.length q2), .int .i64 a3, .int .i64 (1 + a4), .string y2, .string L] [] [.string ⟨#[]⟩, .int .i64 0, .bool false, .int .i64 0, .int .i64 0, .int .i64 0, .int .i64 0, .slice none 0 0, .slice none 0 0, .int .i64 0, .int .i64 0, .string ⟨#[]⟩, .string ⟨#[]⟩] [] _ RY rfl
      have X13 := row_setAll (by decide) [.string u, .int .i64 (1 + a1), .bool a2, .int .i64 s.first, .int .i64 s.last, .int .i64 s.every, .int .i64 s.wd, (.slice p1 s.ex.length q1), (.slice p2 s.xt.length q2), .int .i64 a3, .int .i64 (1 + a4), .string y2, .string L] 0 _ _ XY RY
      have T13 := row_setAll (by decide) [.string u, .int .i64 (1 + a1), .bool a2, .int .i64 s.first, .int .i64 s.last, .int .i64 s.every, .int .i64 s.wd, (.slice p1 s.ex.length q1), (.slice p2 s.xt.length q2), .int .i64 a3, .int .i64 (1 + a4), .string y2, .string L] 0 _ _ TY RY
      have D13 := dice_setAll hblt [.string u, .int .i64 (1 + a1), .bool a2, .int .i64 s.first, .int .i64 s.last, .int .i64 s.every, .int .i64 s.wd, (.slice p1 s.ex.length q1), (.slice p2 s.xt.length q2), .int .i64 a3, .int .i64 (1 + a4), .string y2, .string L] 0 _ DY
      have K13 := but_setAll (Nat.le_refl _) [.string u, .int .i64 (1 + a1), .bool a2, .int .i64 s.first, .int .i64 s.last, .int .i64 s.every, .int .i64 s.wd, (.slice p1 s.ex.length q1), (.slice p2 s.xt.length q2), .int .i64 a3, .int .i64 (1 + a4), .string y2, .string L] 0 _ KY
      obtain ⟨W, hW⟩ : ∃ W, W = setAll wy w.heap.size 0 [.string u, .int .i64 (1 + a1), .bool a2, .int .i64 s.first, .int .i64 s.last, .int .i64 s.every, .int .i64 s.wd, (.slice p1 s.ex.length q1), (.slice p2 s.xt.length q2), .int .i64 a3, .int .i64 (1 + a4), .string y2, .string L] := ⟨_, rfl⟩
      rw [show ([] : List Value).length = 0 from rfl] at R13
      rw [← hW] at R13 X13 T13 D13 K13
      change bodyPost _ _ _ _ _ (setAll wy w.heap.size 0 [.string u, .int .i64 (1 + a1), .bool a2, .int .i64 s.first, .int .i64 s.last, .int .i64 s.every, .int .i64 s.wd, (.slice p1 s.ex.length q1), (.slice p2 s.xt.length q2), .int .i64 a3, .int .i64 (1 + a4), .string y2, .string L])
      rw [← hW]; clear hW RY XY TY DY KY SY c0 c1 c2 c3 c4 c5 c6 c7 c8 c9 c10 c11 c12 f0 f1 f2 f3 f4 f5 f6 f7 f8 f9 f10 f11 f12 r0 r1 r2 r3 r4 r5 r6 r7 r8 r9 r10 r11 r12; obtain ⟨r0, r1, r2, r3, r4, r5, r6, r7, r8, r9, r10, r11, r12⟩ := EvBox.c (e := ⟨u, 1 + a1, a2, s, a3, 1 + a4, y2, L⟩) (v := (.slice p1 s.ex.length q1)) (v' := (.slice p2 s.xt.length q2)) R13
      simp only [Nat.zero_add] at r0 r1 r2 r3 r4 r5 r6 r7 r8 r9 r10 r11 r12
      refine bodyPost_ret (v := evVal ⟨u, 1 + a1, a2, s, a3, 1 + a4, y2, L⟩ (.slice p1 s.ex.length q1) (.slice p2 s.xt.length q2)) (by simp [results, Tryz.results78, go_sem, r0, r1, r2, r3, r4, r5, r6, r7, r8, r9, r10, r11, r12, evVal, evCells]) rfl ?_
      exact ⟨⟨u, 1 + a1, a2, s, a3, 1 + a4, y2, L⟩, (.slice p1 s.ex.length q1), (.slice p2 s.xt.length q2), rfl, ⟨by have := HSG.ex; simp; omega, by have := HSG.xt; simp; omega, hu, hys, hLs⟩, rfl, check_of (e := ⟨u, 1 + a1, a2, s, a3, 1 + a4, y2, L⟩) (by simp; omega) (by simp; omega) HSV.out (fun h => hc (by rw [HCN.out]; exact Tt.many_zero HSV.out h)) k0 k1 (by simp; omega) (by simp; omega) HYL.out.2 HYL.out.1 HLL.out, HSG, X13, T13, D13, K13⟩
end Go.Proofs.YtageielcdebjlaaGreatDoor
