/- The text of the rule of a series: the reference's Format. timetableref40.Escape: its contract. -/
import Derived.Test.YtageielcdebjlaaGreatDoorPk13
import Derived.Test.YtageielcdebjlaaGreatDoorUnfoldAll
namespace Go.Proofs.YtageielcdebjlaaGreatDoor
open Go.RowKit

theorem names260 (w : World) : Calls Tryz.prog 260 #[] w fun e w' => e = .returned (.slice (some ⟨w.heap.size, 0, none⟩) 7 7) ∧ w' = w.alloc (.cells #[.string ⟨#[77, 79]⟩, .string ⟨#[84, 85]⟩, .string ⟨#[87, 69]⟩, .string ⟨#[84, 72]⟩, .string ⟨#[70, 82]⟩, .string ⟨#[83, 65]⟩, .string ⟨#[83, 85]⟩] 9) := by
  go_enter Tryz.func260, Tryz.ntmps260
  go_wp2_with fail
  go_ret; exact ⟨rfl, rfl⟩
theorem names_cell {W : World} {g i : Nat} (h : i < 7) (hg : W.heap[g]? = some (.cells #[.string ⟨#[77, 79]⟩, .string ⟨#[84, 85]⟩, .string ⟨#[87, 69]⟩, .string ⟨#[84, 72]⟩, .string ⟨#[70, 82]⟩, .string ⟨#[83, 65]⟩, .string ⟨#[83, 85]⟩] 9 (0, 0))) : W.cell? ⟨g, i, none⟩ = some (.string ⟨(Tt.nameW i).toArray⟩) := by
  rw [Lib.cell_of_heap hg]
  rcases (show i = 0 ∨ i = 1 ∨ i = 2 ∨ i = 3 ∨ i = 4 ∨ i = 5 ∨ i = 6 by omega) with rfl | rfl | rfl | rfl | rfl | rfl | rfl <;> rfl

set_option maxRecDepth 100000 in
set_option maxHeartbeats 2000000 in
theorem rule182 (s : Tt.Ser) (v v' : Value) (w : World) (hh : Tt.Head s) :
    Calls Tryz.prog 182 #[serVal s v v'] w fun e w' => e = .returned (.string ⟨(Tt.ruleL s).toArray⟩) ∧ Below w.heap.size w w' := by
  have he0 := hh.e0; have he1 := hh.e1; have hl0 := hh.l0; have hl1 := hh.l1; have hw0 := hh.w0; have hw1 := hh.w1; have S0 : SerAt w.heap.size s v v' (w.alloc (.cells #[.int .i64 s.first, .int .i64 s.last, .int .i64 s.every, .int .i64 s.wd, v, v'] 80)) := heap_alloc_new w _
  have HS0 := Lib.hid S0; have HB0 := Lib.hid (below_box w (.cells #[.int .i64 s.first, .int .i64 s.last, .int .i64 s.every, .int .i64 s.wd, v, v'] 80))
  obtain ⟨w0, hw00⟩ : ∃ w0, w0 = w.alloc (.cells #[.int .i64 s.first, .int .i64 s.last, .int .i64 s.every, .int .i64 s.wd, v, v'] 80) := ⟨_, rfl⟩
  rw [← hw00] at HS0 HB0
  unfold serVal
  clear S0 hh; have HE := Lib.hid (Tt.digR_one (n := s.every.toNat) (by omega))
  have HE1 := Lib.hid (Lib.decDigits_one (i := s.every.toNat) (by omega))
  obtain ⟨e0, e1, e2, e3, e4, e5⟩ := HS0.out.cells
  go_enter Tryz.func182, Tryz.ntmps182
  go_upto_region 1 with (fail)
  rw [← hw00]; clear hw00; go_wp2_with fail
  refine (digits259 s.every 1 w0 (by omega) (by omega) (by omega)).mono ?_
  rintro e w1 ⟨rfl, hb1⟩; rw [HE.out]
  obtain ⟨s0, hs0⟩ : ∃ q, q = (⟨[UInt8.ofNat (48 + s.every.toNat)].toArray⟩ : ByteArray) := ⟨_, rfl⟩
  have z0 : s0.size = 1 := by rw [hs0]; rfl
  rw [← hs0]; have HS00 := Lib.hid hs0; have HB1 := Lib.hid (HB0.out.trans (hb1.mono HB0.out.size))
  have HS1 := Lib.hid (show SerAt w.heap.size s v v' w1 from (hb1.block w.heap.size HS0.out.lt).trans HS0.out)
  clear hs0 hb1 HS0 HB0 e0 e1 e2 e3 e4 e5; go_wp2_with fail
  go_loopw [3, 4, 5] (fun ov sv iv wr => ∃ (i : Nat) (o sg : ByteArray), ov = .string o ∧ sv = .string sg ∧ iv = .int .i64 i ∧ i ≤ 7 ∧ o.size ≤ 29 + 3 * i ∧ sg.size ≤ 1 ∧ Hid (o.data.toList = [70, 82, 69, 81, 61, 87, 69, 69, 75, 76, 89, 59, 73, 78, 84, 69, 82, 86, 65, 76, 61] ++ [UInt8.ofNat (48 + s.every.toNat)] ++ [59, 66, 89, 68, 65, 89, 61] ++ Tt.byL s.wd i) ∧ Hid (sg.data.toList = if Tt.wdays s.wd i = [] then [] else [44]) ∧ Hid (SerAt w.heap.size s v v' wr) ∧ Hid (Below w.heap.size w wr)) (fun _ _ iv _ => 7 - (intOf iv).toNat)
  case atStart => exact ⟨0, _, _, rfl, rfl, rfl, by omega, by simp only [bs_size]; rw [z0]; decide, by decide, Lib.hid (by simp only [bs_app, HS00.out]; rfl), Lib.hid rfl, HS1, HB1⟩
  case round =>
    clear HS1 HB1; obtain ⟨i, o, sg, rfl, rfl, rfl, hi, hoz, hsz, HO, HSG, HS, HB⟩ := hrel; have hsw := HB.out.size; have hslt := HS.out.lt; obtain ⟨e0, e1, e2, e3, e4, e5⟩ := HS.out.cells
    by_cases hlt : i < 7
    · have hlti : (i : Int) < 7 := by omega
      have HBT := Lib.hid (show (bits .and .i64 (s.wd / 2 ^ i) 1 == 1) = Tt.bit s.wd (i : Int) from bit_is s.wd (i : Int) hw0 (by omega))
      cases hb : (bits .and .i64 (s.wd / 2 ^ i) 1 == 1)
      · have hbf : Tt.bit s.wd (i : Int) = false := by rw [← HBT.out, hb]
        have HST := Lib.hid (show Tt.wdays s.wd (i + 1) = Tt.wdays s.wd i from by rw [Tt.wdays_step, if_neg (by simp [hbf])])
        have HBY := Lib.hid (Tt.byL_same hbf)
        clear HBT hbf; go_wp2_with fail
        go_roundw
        case rel => exact ⟨i + 1, o, sg, rfl, rfl, by go_num, by omega, by omega, hsz, by rw [HBY.out]; exact HO, by rw [HST.out]; exact HSG, HS, HB⟩
        case measure => simp [intOf]; omega
      · have hbf : Tt.bit s.wd (i : Int) = true := by rw [← HBT.out, hb]
        have HST := Lib.hid (show Tt.wdays s.wd (i + 1) ≠ [] from by rw [Tt.wdays_step, if_pos hbf]; simp)
        have HBY := Lib.hid (Tt.byL_step hbf)
        have hnz : (ByteArray.mk (Tt.nameW i).toArray).size = 2 := str_size (Tt.nameW_len hlt)
        have HC := Lib.hid (names_cell (W := wr.alloc (.cells #[.string ⟨#[77, 79]⟩, .string ⟨#[84, 85]⟩, .string ⟨#[87, 69]⟩, .string ⟨#[84, 72]⟩, .string ⟨#[70, 82]⟩, .string ⟨#[83, 65]⟩, .string ⟨#[83, 85]⟩] 9)) hlt (heap_alloc_new wr _))
        clear HBT hbf; go_wp2_with fail
        refine (names260 wr).mono ?_
        rintro e w2 ⟨rfl, hw2⟩; have hc := HC.out; rw [← hw2] at hc
        have HB2 := Lib.hid (show Below w.heap.size w w2 from by rw [hw2]; exact HB.out.alloc hsw _)
        have HS2 := Lib.hid (show SerAt w.heap.size s v v' w2 from by rw [hw2]; exact (Lib.alloc_old wr _ w.heap.size hslt).trans HS.out)
        obtain ⟨nm, hnm⟩ : ∃ q, q = ByteArray.mk (Tt.nameW i).toArray := ⟨_, rfl⟩
        rw [← hnm] at hc hnz
        have HNM := Lib.hid (show nm.data.toList = Tt.nameW i from by rw [hnm])
        clear hw2 HC hnm; go_wp2_with fail
        go_roundw
        case rel => exact ⟨i + 1, o ++ (sg ++ nm), ⟨#[44]⟩, rfl, rfl, by go_num, by omega, by rw [bs_size, bs_size, hnz]; omega, by decide, Lib.hid (by rw [bs_app, bs_app, HO.out, HSG.out, HBY.out, HNM.out]; simp only [List.append_assoc]), Lib.hid (by rw [if_neg HST.out]), HS2, HB2⟩
        case measure => simp [intOf]; omega
    · have hlti : ¬ (i : Int) < 7 := by omega
      have hi7 : i = 7 := by omega
      have HO7 := Lib.hid (show o.data.toList = [70, 82, 69, 81, 61, 87, 69, 69, 75, 76, 89, 59, 73, 78, 84, 69, 82, 86, 65, 76, 61] ++ [UInt8.ofNat (48 + s.every.toNat)] ++ [59, 66, 89, 68, 65, 89, 61] ++ Tt.byL s.wd 7 from by rw [← hi7]; exact HO.out)
      have HR := Lib.hid (show Tt.ruleL s = [70, 82, 69, 81, 61, 87, 69, 69, 75, 76, 89, 59, 73, 78, 84, 69, 82, 86, 65, 76, 61] ++ Lib.decDigits s.every.toNat ++ [59, 66, 89, 68, 65, 89, 61] ++ Tt.byL s.wd 7 ++ [59, 85, 78, 84, 73, 76, 61] ++ Tt.dateL s.last from rfl)
      have hoz2 : o.size ≤ 50 := by omega
      clear hi7 hoz; go_wp2_with fail
      refine (date183 s.last wr hl0 hl1).mono ?_
      rintro e w2 ⟨rfl, hb2⟩; obtain ⟨s2, hs2⟩ : ∃ q, q = (⟨(Tt.dateL s.last).toArray⟩ : ByteArray) := ⟨_, rfl⟩
      have z2 : s2.size = 8 := by rw [hs2]; rfl
      rw [← hs2]; have HS2 := Lib.hid (show s2.data.toList = Tt.dateL s.last from by rw [hs2])
      have HB2 := Lib.hid (HB.out.trans (hb2.mono hsw))
      clear hs2 hb2; go_wp2_with fail
      go_ret; exact ⟨ret_bytes (by rw [bs_app, bs_app, HO7.out, HS2.out, HR.out, HE1.out]), HB2.out⟩
set_option maxRecDepth 100000 in
theorem format111 (s : Tt.Ser) (B : Nat) (w : World) (hs : Tt.serV s = 0) (ao ao' : Option Addr) (c c' : Nat) (hB : B ≤ w.heap.size) (hI : Ints B w ao s.ex) (hI' : Ints B w ao' s.xt) :
    Calls Tryz.prog 111 #[serVal s (.slice ao s.ex.length c) (.slice ao' s.xt.length c')] w fun e w' => e = .returned (.tuple #[.string ⟨(Tt.ruleL s).toArray⟩, .int .i64 0]) ∧ Below w.heap.size w w' := by
  have hh := ((Tt.serV_zero s).1 hs).1
  have hbx := below_box w (.cells #[.int .i64 s.first, .int .i64 s.last, .int .i64 s.every, .int .i64 s.wd, .slice ao s.ex.length c, .slice ao' s.xt.length c'] 80)
  have S0 : SerAt w.heap.size s (.slice ao s.ex.length c) (.slice ao' s.xt.length c') (w.alloc (.cells #[.int .i64 s.first, .int .i64 s.last, .int .i64 s.every, .int .i64 s.wd, .slice ao s.ex.length c, .slice ao' s.xt.length c'] 80)) := heap_alloc_new w _
  obtain ⟨w0, hw00⟩ : ∃ w0, w0 = w.alloc (.cells #[.int .i64 s.first, .int .i64 s.last, .int .i64 s.every, .int .i64 s.wd, .slice ao s.ex.length c, .slice ao' s.xt.length c'] 80) := ⟨_, rfl⟩
  rw [← hw00] at S0 hbx
  have HV : Hid (Calls Tryz.prog 170 #[serVal s (.slice ao s.ex.length c) (.slice ao' s.xt.length c')] w0 fun e w' => e = .returned (.int .i64 0) ∧ Below w0.heap.size w0 w') := Lib.hid (by
    have h := valid170_any s B w0 (by have := hh.n; omega) (by have := hh.n; omega) ao ao' c c' (by have := hbx.size; omega) (hI.below (hbx.mono hB)) (hI'.below (hbx.mono hB))
    rw [hs] at h
    exact h)
  have HR : Hid (∀ W : World, Calls Tryz.prog 182 #[serVal s (.slice ao s.ex.length c) (.slice ao' s.xt.length c')] W fun e w' => e = .returned (.string ⟨(Tt.ruleL s).toArray⟩) ∧ Below W.heap.size W w') := Lib.hid (fun W => rule182 s _ _ W hh)
  have HS0 := Lib.hid S0; have HB0 := Lib.hid hbx; obtain ⟨ex, hex⟩ : ∃ n, n = s.ex.length := ⟨_, rfl⟩
  obtain ⟨xt, hxt⟩ : ∃ n, n = s.xt.length := ⟨_, rfl⟩
  unfold serVal at HV HR ⊢
  rw [← hex, ← hxt] at HV HS0 hw00 HR ⊢
  clear S0 hI hI' hh hs hex hxt hbx; obtain ⟨e0, e1, e2, e3, e4, e5⟩ := HS0.out.cells
  go_enter Tryz.func111, Tryz.ntmps111
  go_upto_region 1 with (fail)
  rw [← hw00]; clear hw00; go_wp2_with fail
  refine HV.out.mono ?_
  rintro e w1 ⟨rfl, hb1⟩; have HB1 := Lib.hid (HB0.out.trans (hb1.mono HB0.out.size))
  have HS1 := Lib.hid (show SerAt w.heap.size s (.slice ao ex c) (.slice ao' xt c') w1 from (hb1.block w.heap.size HS0.out.lt).trans HS0.out)
  clear hb1 HV HS0 HB0 e0 e1 e2 e3 e4 e5; obtain ⟨e0, e1, e2, e3, e4, e5⟩ := HS1.out.cells
  go_wp2_with fail
  refine (HR.out w1).mono ?_
  rintro e w2 ⟨rfl, hb2⟩; have HB2 := Lib.hid (HB1.out.trans (hb2.mono HB1.out.size))
  clear hb2; go_wp2_with fail
  go_ret2
  exact ⟨rfl, HB2.out⟩
end Go.Proofs.YtageielcdebjlaaGreatDoor
namespace Go.Proofs.YtageielcdebjlaaGreatDoor
open Go.RowKit

theorem cells_any (w : World) (vs : List Value) (e : TypeId) : ∀ (j : Nat) (u : Value), vs[j]? = some u → (w.alloc (.cells vs.toArray e)).cell? ((⟨w.heap.size, 0, none⟩ : Addr).add j) = some u := by
  intro j u hj; have e1 : (⟨w.heap.size, 0, none⟩ : Addr).add j = ⟨w.heap.size, j, none⟩ := by
    unfold Addr.add
    split
    · simp
    · simp
  rw [e1, World.cell?_alloc_at _ _ _ _ rfl]
  simpa using hj

set_option maxHeartbeats 4000000 in
set_option maxRecDepth 100000 in
theorem refEscape_any (s : ByteArray) (w : World) (hs : s.size ≤ 70368744177664) :
    Calls Tryz.prog 40 #[.string s] w fun e w' => e = .returned (.string ⟨(Tt.esc s.data.toList).toArray⟩) ∧ Below w.heap.size w w' := by
  obtain ⟨i0, hi, hz0, hz1, hz2⟩ := info_parts infoByte
  have HL := Lib.hid (Lib.size_eq s)
  go_enter Tryz.func40, Tryz.ntmps40
  go_wp2_with fail
  go_loopw [3, 4] (fun v i wr => ∃ (k : Nat) (acc : List UInt8), k ≤ s.size ∧ i = .int .i64 k ∧ wr.ownsRow w.heap.size 5 1 v acc.length (Lib.byteCells acc) ∧ Below w.heap.size w wr ∧ acc.length ≤ 2 * k ∧ Hid (acc = Tt.esc (s.data.toList.take k))) (fun _ i _ => s.size - (intOf i).toNat)
  case atStart => exact ⟨0, [], Nat.zero_le _, rfl, World.ownsRow_nil _ _ _ _, Below.refl _ _, Nat.zero_le _, rfl⟩
  case round =>
    obtain ⟨k, acc, hk, rfl, hown, hbe, hal, HA⟩ := hrel; have hsr := hbe.size; by_cases hlt : k < s.size
    · obtain ⟨c, hx⟩ : ∃ c : UInt8, s[k]'hlt = c := ⟨_, rfl⟩
      have hc : s.data.toList[k]? = some c := by have := Lib.data_getElem? s k hlt; rw [hx] at this; exact this
      have HST := Lib.hid (esc_snoc s.data.toList k c hc)
      have hki : (k : Int) < (s.size : Int) := by omega
      clear hc; by_cases h1 : c = 92 ∨ c = 59 ∨ c = 44
      · have HB := Lib.hid (show Tt.escB c = [92, c] by unfold Tt.escB; rw [if_pos h1])
        have htests : (((c.toNat : Int) == 92) = true) ∨ (((c.toNat : Int) == 92) = false ∧ ((c.toNat : Int) == 59) = true) ∨ (((c.toNat : Int) == 92) = false ∧ ((c.toNat : Int) == 59) = false ∧ ((c.toNat : Int) == 44) = true) := by
          by_cases e : c = 92
          · exact .inl (byte_eq c 92 92 rfl e)
          · by_cases e2 : c = 59
            · exact .inr (.inl ⟨byte_ne c 92 92 rfl e, byte_eq c 59 59 rfl e2⟩)
            · exact .inr (.inr ⟨byte_ne c 92 92 rfl e, byte_ne c 59 59 rfl e2, byte_eq c 44 44 rfl ((h1.resolve_left e).resolve_left e2)⟩)
        clear h1; rcases htests with t1 | ⟨t1, t2⟩ | ⟨t1, t2, t3⟩
        all_goals
          go_wp2_with (at_builtin; refine wpList_append_own _ rfl (.tmp 24) (.tmp 28) 76 rfl w.heap.size 5 i0 (.int .u8 0) 1 1 Tryz.underlying76 hi hz0 hz1 hz2 rfl (by decide) _ _ _ rfl (hown.alloc _) ⟨wr.heap.size, 0, none⟩ 2 2 [.int .u8 92, .int .u8 c.toNat] rfl rfl (cells_any _ [.int .u8 92, .int .u8 c.toNat] 5) (by intro u hu; simp at hu; rcases hu with rfl | rfl <;> rfl) (by unfold maxLen; omega) (by omega) (by simp; omega) ?_)
          intro v' w3 hown3 hgrow _; have hbe3 : Below w.heap.size w w3 := (hbe.alloc (by omega) _).grown hgrow (by simp; omega) (fun k hk => (hown.lt k hk).1)
          clear hgrow hown hbe; go_wp2_with fail
          go_roundw
          case rel =>
            refine ⟨k + 1, acc ++ [92, c], by omega, by go_num, by simpa [Lib.byteCells] using hown3, hbe3, by simp; omega, ?_⟩
            show _ = _
            rw [HST.out, HB.out, HA.out]
          case measure => simp [intOf]; omega
      · have t1 := byte_ne c 92 92 rfl (fun e => h1 (.inl e))
        have t2 := byte_ne c 59 59 rfl (fun e => h1 (.inr (.inl e)))
        have t3 := byte_ne c 44 44 rfl (fun e => h1 (.inr (.inr e)))
        by_cases h2 : c = 10
        · have HB := Lib.hid (show Tt.escB c = [92, 110] by unfold Tt.escB; rw [if_neg h1, if_pos h2])
          have t4 := byte_eq c 10 10 rfl h2; clear h1 h2; go_wp2_with (at_builtin; refine wpList_append_own _ rfl (.tmp 32) (.tmp 33) 76 rfl w.heap.size 5 i0 (.int .u8 0) 1 1 Tryz.underlying76 hi hz0 hz1 hz2 rfl (by decide) _ _ _ rfl (hown.alloc _) ⟨wr.heap.size, 0, none⟩ 2 2 [.int .u8 92, .int .u8 110] rfl rfl (cells_any _ [.int .u8 92, .int .u8 110] 5) (by intro u hu; simp at hu; rcases hu with rfl | rfl <;> rfl) (by unfold maxLen; omega) (by omega) (by simp; omega) ?_)
          intro v' w3 hown3 hgrow _; have hbe3 : Below w.heap.size w w3 := (hbe.alloc (by omega) _).grown hgrow (by simp; omega) (fun k hk => (hown.lt k hk).1)
          clear hgrow hown hbe; go_wp2_with fail
          go_roundw
          case rel =>
            refine ⟨k + 1, acc ++ [92, 110], by omega, by go_num, by simpa [Lib.byteCells] using hown3, hbe3, by simp; omega, ?_⟩
            show _ = _
            rw [HST.out, HB.out, HA.out]
          case measure => simp [intOf]; omega
        · have HB := Lib.hid (show Tt.escB c = [c] by unfold Tt.escB; rw [if_neg h1, if_neg h2])
          have t4 := byte_ne c 10 10 rfl h2; clear h1 h2; go_wp2_with (at_builtin; refine wpList_append_own _ rfl (.tmp 14) (.tmp 18) 76 rfl w.heap.size 5 i0 (.int .u8 0) 1 1 Tryz.underlying76 hi hz0 hz1 hz2 rfl (by decide) _ _ _ rfl (hown.alloc _) ⟨wr.heap.size, 0, none⟩ 1 1 [.int .u8 c.toNat] rfl rfl (cells_any _ [.int .u8 c.toNat] 5) (by intro u hu; simp at hu; subst hu; rfl) (by unfold maxLen; omega) (by omega) (by simp; omega) ?_)
          intro v' w3 hown3 hgrow _; have hbe3 : Below w.heap.size w w3 := (hbe.alloc (by omega) _).grown hgrow (by simp; omega) (fun k hk => (hown.lt k hk).1)
          clear hgrow hown hbe; go_wp2_with fail
          go_roundw
          case rel =>
            refine ⟨k + 1, acc ++ [c], by omega, by go_num, by simpa [Lib.byteCells] using hown3, hbe3, by simp; omega, ?_⟩
            show _ = _
            rw [HST.out, HB.out, HA.out]
          case measure => simp [intOf]; omega
    · have hcv := string_of_row hown; go_wp2_with fail
      go_ret; refine ⟨ret_str ?_, hbe⟩
      rw [HA.out, List.take_of_length_le (by rw [← HL.out]; omega)]
end Go.Proofs.YtageielcdebjlaaGreatDoor
