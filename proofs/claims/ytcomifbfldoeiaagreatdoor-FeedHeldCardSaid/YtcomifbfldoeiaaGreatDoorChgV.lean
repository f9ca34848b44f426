/- A published timetable's error: changes.Valid (126) and the reference's Valid (151). -/
import Derived.Test.YtcomifbfldoeiaaGreatDoorChgO
import Derived.Deep.RegionHeld3
namespace Go.Proofs.YtcomifbfldoeiaaGreatDoor
open Go.RowKit

/-- A slice of sessions, in a block below B. -/
def SesAt (B : Nat) (w : World) (ao : Option Addr) (ls : List Ses) : Prop := ls = [] ∨ ∃ b o, ao = some ⟨b, o, none⟩ ∧ b < B ∧ ∀ (j i : Nat) (s : Ses) (u : Value), ls[j]? = some s → (sesCells s).toList[i]? = some u → w.cell? ⟨b, o + j * 6 + i, none⟩ = some u
theorem SesAt.below {B : Nat} {w w' : World} {ao : Option Addr} {ls : List Ses} (h : SesAt B w ao ls) (hb : Below B w w') : SesAt B w' ao ls := by
  rcases h with h | ⟨b, o, h1, h2, h3⟩
  · exact .inl h
  · exact .inr ⟨b, o, h1, h2, fun j i s u hs hu => (hb.cell (p := ⟨b, o + j * 6 + i, none⟩) h2).trans (h3 j i s u hs hu)⟩
theorem SesAt.mono {B B' : Nat} {w : World} {ao : Option Addr} {ls : List Ses} (h : SesAt B w ao ls) (hB : B ≤ B') : SesAt B' w ao ls := by
  rcases h with h | ⟨b, o, h1, h2, h3⟩
  · exact .inl h
  · exact .inr ⟨b, o, h1, by omega, h3⟩
theorem SesAt.form {B : Nat} {w : World} {ao : Option Addr} {ls : List Ses} (h : SesAt B w ao ls) (hp : 0 < ls.length) : ∃ b o, ao = some ⟨b, o, none⟩ ∧ b < B ∧ ∀ (j i : Nat) (s : Ses) (u : Value), ls[j]? = some s → (sesCells s).toList[i]? = some u → w.cell? ⟨b, o + j * 6 + i, none⟩ = some u := by
  rcases h with h | h
  · subst h; simp at hp
  · exact h
theorem bef_ord {a b : Ses} : befB a b = true ↔ (if cmpS a.cls b.cls ≠ 0 then cmpS a.cls b.cls else Lib.compareInt (lowW a) (lowW b)) < 0 := by
  unfold befB cmpS lessU Lib.compareInt
  rw [dec_bytes]
  by_cases h1 : Op.bytesLess a.cls.toList b.cls.toList = true
  · rw [if_pos h1, h1]; simp
  · rw [if_neg h1]
    have h1 : Op.bytesLess a.cls.toList b.cls.toList = false := by simpa using h1
    rw [h1]
    by_cases h2 : a.cls = b.cls
    · rw [decide_eq_true h2]
      simp only [Bool.false_or, Bool.true_and, decide_eq_true_eq, if_true, ne_eq, not_true, if_false]
      constructor
      · intro h3; rw [if_pos h3]; decide
      · intro h3; split at h3
        · rename_i g; exact g
        · split at h3 <;> omega
    · rw [decide_eq_false h2]; simp
theorem chg_range {l : List Ses} {n : Int} (h : n < 1 ∨ 20 < n) : chgV l n = 3 := if_pos h
theorem chg_size {l : List Ses} {n : Int} (h : ¬ (n < 1 ∨ 20 < n)) (h2 : 96 < (l.length : Int)) : chgV l n = 2 := (if_neg h).trans (if_pos h2)
theorem chg_ses {l : List Ses} {n : Int} (h : ¬ (n < 1 ∨ 20 < n)) (h2 : ¬ 96 < (l.length : Int)) (h3 : sesL n l ≠ 0) : chgV l n = sesL n l := (if_neg h).trans ((if_neg h2).trans (if_pos h3))
theorem chg_ord {l : List Ses} {n : Int} (h : ¬ (n < 1 ∨ 20 < n)) (h2 : ¬ 96 < (l.length : Int)) (h3 : sesL n l = 0) (h4 : ordB l = false) : chgV l n = 63 := (if_neg h).trans ((if_neg h2).trans ((if_neg (by simp [h3])).trans (if_pos h4)))
theorem chg_dup {l : List Ses} {n : Int} (h : ¬ (n < 1 ∨ 20 < n)) (h2 : ¬ 96 < (l.length : Int)) (h3 : sesL n l = 0) (h4 : ordB l = true) (h5 : dupB [] l = true) : chgV l n = 11 := (if_neg h).trans ((if_neg h2).trans ((if_neg (by simp [h3])).trans ((if_neg (by simp [h4])).trans (if_pos h5))))
theorem chg_ok {l : List Ses} {n : Int} (h : ¬ (n < 1 ∨ 20 < n)) (h2 : ¬ 96 < (l.length : Int)) (h3 : sesL n l = 0) (h4 : ordB l = true) (h5 : dupB [] l = false) : chgV l n = 0 := (if_neg h).trans ((if_neg h2).trans ((if_neg (by simp [h3])).trans ((if_neg (by simp [h4])).trans (if_neg (by simp [h5])))))
set_option maxHeartbeats 8000000 in
set_option maxRecDepth 100000 in
theorem chg126 (ls : List Ses) (n : Int) (ao : Option Addr) (c B : Nat) (w : World) (hB : B ≤ w.heap.size) (hS : SesAt B w ao ls) (hcap : ls.length ≤ c) (hc : c ≤ 9223372036854775807) (hT : Tz w) (h6 : 6 < w.heap.size) : Calls Tryz.prog 80 #[.slice ao ls.length c, .int .i64 n] w fun e w' => e = .returned (.int .i64 (chgV ls n)) ∧ Below w.heap.size w w' := by
  have HS := Lib.hid (hS.mono hB)
  have HT := Lib.hid hT; have HSix := Lib.hid h6; clear hS hT h6; by_cases hn : n < 1 ∨ 20 < n
  · have HR := Lib.hid (chg_range (l := ls) hn)
    rcases hn with hn | hn
    · go_enter Tryz.func80, Tryz.ntmps80
      go_wp2_with fail
      go_ret; exact ⟨ret_int HR.out.symm, Below.refl _ _⟩
    · have hn1 : ¬ n < 1 := by omega
      go_enter Tryz.func80, Tryz.ntmps80
      go_wp2_with fail
      go_ret; exact ⟨ret_int HR.out.symm, Below.refl _ _⟩
  have HN := Lib.hid hn; have hn1 : ¬ n < 1 := by omega
  have hn2 : ¬ 20 < n := by omega
  clear hn; by_cases hl : 96 < (ls.length : Int)
  · have HR := Lib.hid (chg_size HN.out hl)
    go_enter Tryz.func80, Tryz.ntmps80
    go_wp2_with fail
    go_ret; exact ⟨ret_int HR.out.symm, Below.refl _ _⟩
  have HLN := Lib.hid (show (ls.length : Int) ≤ 96 from by omega)
  go_enter Tryz.func80, Tryz.ntmps80
  go_wp2_with fail
  go_loopw [24] (fun iv wr => ∃ k : Nat, iv = .int .i64 k ∧ k ≤ ls.length ∧ Hid (sesL n ls = sesL n (ls.drop k)) ∧ Hid (Below w.heap.size w wr)) (fun iv _ => ls.length - (intOf iv).toNat)
  case atStart => exact ⟨0, rfl, Nat.zero_le _, Lib.hid rfl, Lib.hid (Below.refl _ _)⟩
  case round =>
    obtain ⟨k, rfl, hk, HK, HB⟩ := hrel; by_cases hlt : k < ls.length
    · have hki : (k : Int) < (ls.length : Int) := by omega
      have hk0 : (0 : Int) ≤ (k : Int) := by omega
      obtain ⟨b, o, ha, hbl, hev⟩ := HS.out.form (by omega)
      subst ha; obtain ⟨s, hs⟩ : ∃ s, ls[k]? = some s := ⟨_, List.getElem?_eq_getElem hlt⟩
      have Hs := Lib.hid hs; have x0 : wr.cell? ⟨b, o + k * 6, none⟩ = some (.string s.cls) := (HB.out.cell (p := ⟨b, o + k * 6, none⟩) hbl).trans (hev k 0 s _ Hs.out rfl)
      have x1 : wr.cell? ⟨b, o + k * 6 + 1, none⟩ = some (.int .i64 s.tim.weeks) := (HB.out.cell (p := ⟨b, o + k * 6 + 1, none⟩) hbl).trans (hev k 1 s _ Hs.out rfl)
      have x2 : wr.cell? ⟨b, o + k * 6 + 2, none⟩ = some (.int .i64 s.tim.day) := (HB.out.cell (p := ⟨b, o + k * 6 + 2, none⟩) hbl).trans (hev k 2 s _ Hs.out rfl)
      have x3 : wr.cell? ⟨b, o + k * 6 + 3, none⟩ = some (.int .i64 s.tim.start) := (HB.out.cell (p := ⟨b, o + k * 6 + 3, none⟩) hbl).trans (hev k 3 s _ Hs.out rfl)
      have x4 : wr.cell? ⟨b, o + k * 6 + 4, none⟩ = some (.int .i64 s.tim.len) := (HB.out.cell (p := ⟨b, o + k * 6 + 4, none⟩) hbl).trans (hev k 4 s _ Hs.out rfl)
      have x5 : wr.cell? ⟨b, o + k * 6 + 5, none⟩ = some (.string s.room) := (HB.out.cell (p := ⟨b, o + k * 6 + 5, none⟩) hbl).trans (hev k 5 s _ Hs.out rfl)
      have HST := Lib.hid (HK.out.trans (sesL_step n ls k s hs))
      clear hev hs; obtain ⟨X, hX⟩ : ∃ x, x = wr.heap.size := ⟨_, rfl⟩
      obtain ⟨w1, hw1⟩ : ∃ x, x = wr.alloc (.cells #[.string s.cls, .int .i64 s.tim.weeks, .int .i64 s.tim.day, .int .i64 s.tim.start, .int .i64 s.tim.len, .string s.room] 110) := ⟨_, rfl⟩
      have HX1 := Lib.hid (show Blk X #[.string s.cls, .int .i64 s.tim.weeks, .int .i64 s.tim.day, .int .i64 s.tim.start, .int .i64 s.tim.len, .string s.room] 110 w1 from by rw [hw1, hX]; exact Blk.new wr _ _)
      have HB1 := Lib.hid (show Below w.heap.size w w1 from by rw [hw1]; exact HB.out.alloc HB.out.size _)
      go_upto_region 8 with (fail)
      rw [← hw1, ← hX]; clear hw1 hX x0 x1 x2 x3 x4 x5; have y0 : w1.cell? ⟨X, 0, none⟩ = some (.string s.cls) := HX1.out.cell 0
      have y1 : w1.cell? ⟨X, 1, none⟩ = some (.int .i64 s.tim.weeks) := HX1.out.cell 1
      have y2 : w1.cell? ⟨X, 2, none⟩ = some (.int .i64 s.tim.day) := HX1.out.cell 2
      have y3 : w1.cell? ⟨X, 3, none⟩ = some (.int .i64 s.tim.start) := HX1.out.cell 3
      have y4 : w1.cell? ⟨X, 4, none⟩ = some (.int .i64 s.tim.len) := HX1.out.cell 4
      have y5 : w1.cell? ⟨X, 5, none⟩ = some (.string s.room) := HX1.out.cell 5
      have HC := Lib.hid (check194 s n w1)
      unfold sesVal sesCells at HC
      obtain ⟨E, hE⟩ : ∃ e, e = sesE s n := ⟨_, rfl⟩
      rw [← hE] at HC HST
      clear hE; go_wp2_with fail
      refine HC.out.mono ?_
      clear HC; rintro e w2 ⟨rfl, hb⟩; have HB2 := Lib.hid (HB1.out.trans (hb.mono HB1.out.size))
      clear hb y0 y1 y2 y3 y4 y5; by_cases hE : E = 0
      · subst hE; have HK2 := Lib.hid (show sesL n ls = sesL n (ls.drop (k + 1)) from HST.out.trans (if_neg (by simp)))
        go_wp2_with fail
        go_roundw
        case rel => exact ⟨k + 1, by go_num, by omega, HK2, HB2⟩
        case measure => simp [intOf]; omega
      · have HR := Lib.hid (show chgV ls n = E from by have h := HST.out.trans (if_pos hE); rw [chg_ses HN.out (show ¬ 96 < (ls.length : Int) from by have := HLN.out; omega) (by rw [h]; exact hE), h])
        have hE2 : (E == 0) = false := by simpa using hE
        have hE3 : (E != 0) = true := by simpa using hE
        go_wp2_with fail
        go_ret; exact ⟨ret_int HR.out.symm, HB2.out⟩
    have hki : ¬ (k : Int) < (ls.length : Int) := by omega
    have HSL := Lib.hid (show sesL n ls = 0 from by rw [HK.out, List.drop_eq_nil_of_le (by omega)]; rfl)
    obtain ⟨wa, hwa⟩ : ∃ q, q = wr := ⟨_, rfl⟩
    rw [← hwa] at HB ⊢
    clear hwa; have HSE := Lib.hid (sesL_each n ls HSL.out)
    go_wp2_with fail
    clear hki hk hlt HK; go_loopw [8] (fun iv wr => ∃ k : Nat, iv = .int .i64 ((k : Int) + 1) ∧ k ≤ ls.length ∧ Hid (ordB ls = ordB (ls.drop k)) ∧ Hid (Below w.heap.size w wr)) (fun iv _ => ls.length + 1 - (intOf iv).toNat)
    case atStart => exact ⟨0, rfl, Nat.zero_le _, Lib.hid rfl, HB⟩
    case round =>
      clear HB; obtain ⟨k, rfl, hk, HK, HB⟩ := hrel; by_cases hlt : k + 1 < ls.length
      · have hki : (k : Int) + 1 < (ls.length : Int) := by omega
        have hk0 : (0 : Int) ≤ (k : Int) := by omega
        have hkl : (k : Int) < (ls.length : Int) := by omega
        obtain ⟨b, o, ha, hbl, hev⟩ := HS.out.form (by omega)
        subst ha; obtain ⟨s, hs⟩ : ∃ s, ls[k]? = some s := ⟨_, List.getElem?_eq_getElem (by omega)⟩
        obtain ⟨z, hz⟩ : ∃ z, ls[k + 1]? = some z := ⟨_, List.getElem?_eq_getElem hlt⟩
        have Hs := Lib.hid hs; have Hz := Lib.hid hz; have HST := Lib.hid (HK.out.trans (ordB_step ls k s z hs hz))
        have HWs := Lib.hid (sesE_low (HSE.out s (List.mem_of_getElem? hs)))
        have HWz := Lib.hid (sesE_low (HSE.out z (List.mem_of_getElem? hz)))
        have hbr : b < wr.heap.size := Nat.lt_of_lt_of_le hbl HB.out.size
        have HKP : Hid (∀ W' : World, Below wr.heap.size wr W' → W'.cell? ⟨b, o + k * 6, none⟩ = some (.string s.cls) ∧ W'.cell? ⟨b, o + k * 6 + 1, none⟩ = some (.int .i64 s.tim.weeks) ∧ W'.cell? ⟨b, o + k * 6 + 2, none⟩ = some (.int .i64 s.tim.day) ∧ W'.cell? ⟨b, o + k * 6 + 3, none⟩ = some (.int .i64 s.tim.start) ∧ W'.cell? ⟨b, o + k * 6 + 4, none⟩ = some (.int .i64 s.tim.len) ∧ W'.cell? ⟨b, o + k * 6 + 5, none⟩ = some (.string s.room) ∧ W'.cell? ⟨b, o + (k + 1) * 6, none⟩ = some (.string z.cls) ∧ W'.cell? ⟨b, o + (k + 1) * 6 + 1, none⟩ = some (.int .i64 z.tim.weeks) ∧ W'.cell? ⟨b, o + (k + 1) * 6 + 2, none⟩ = some (.int .i64 z.tim.day) ∧ W'.cell? ⟨b, o + (k + 1) * 6 + 3, none⟩ = some (.int .i64 z.tim.start) ∧ W'.cell? ⟨b, o + (k + 1) * 6 + 4, none⟩ = some (.int .i64 z.tim.len) ∧ W'.cell? ⟨b, o + (k + 1) * 6 + 5, none⟩ = some (.string z.room)) := Lib.hid fun W' hW => ⟨((hW.cell (p := ⟨b, o + k * 6, none⟩) hbr).trans ((HB.out.cell (p := ⟨b, o + k * 6, none⟩) hbl).trans (hev k 0 s _ Hs.out rfl))), ((hW.cell (p := ⟨b, o + k * 6 + 1, none⟩) hbr).trans ((HB.out.cell (p := ⟨b, o + k * 6 + 1, none⟩) hbl).trans (hev k 1 s _ Hs.out rfl))), ((hW.cell (p := ⟨b, o + k * 6 + 2, none⟩) hbr).trans ((HB.out.cell (p := ⟨b, o + k * 6 + 2, none⟩) hbl).trans (hev k 2 s _ Hs.out rfl))), ((hW.cell (p := ⟨b, o + k * 6 + 3, none⟩) hbr).trans ((HB.out.cell (p := ⟨b, o + k * 6 + 3, none⟩) hbl).trans (hev k 3 s _ Hs.out rfl))), ((hW.cell (p := ⟨b, o + k * 6 + 4, none⟩) hbr).trans ((HB.out.cell (p := ⟨b, o + k * 6 + 4, none⟩) hbl).trans (hev k 4 s _ Hs.out rfl))), ((hW.cell (p := ⟨b, o + k * 6 + 5, none⟩) hbr).trans ((HB.out.cell (p := ⟨b, o + k * 6 + 5, none⟩) hbl).trans (hev k 5 s _ Hs.out rfl))), ((hW.cell (p := ⟨b, o + (k + 1) * 6, none⟩) hbr).trans ((HB.out.cell (p := ⟨b, o + (k + 1) * 6, none⟩) hbl).trans (hev (k + 1) 0 z _ Hz.out rfl))), ((hW.cell (p := ⟨b, o + (k + 1) * 6 + 1, none⟩) hbr).trans ((HB.out.cell (p := ⟨b, o + (k + 1) * 6 + 1, none⟩) hbl).trans (hev (k + 1) 1 z _ Hz.out rfl))), ((hW.cell (p := ⟨b, o + (k + 1) * 6 + 2, none⟩) hbr).trans ((HB.out.cell (p := ⟨b, o + (k + 1) * 6 + 2, none⟩) hbl).trans (hev (k + 1) 2 z _ Hz.out rfl))), ((hW.cell (p := ⟨b, o + (k + 1) * 6 + 3, none⟩) hbr).trans ((HB.out.cell (p := ⟨b, o + (k + 1) * 6 + 3, none⟩) hbl).trans (hev (k + 1) 3 z _ Hz.out rfl))), ((hW.cell (p := ⟨b, o + (k + 1) * 6 + 4, none⟩) hbr).trans ((HB.out.cell (p := ⟨b, o + (k + 1) * 6 + 4, none⟩) hbl).trans (hev (k + 1) 4 z _ Hz.out rfl))), ((hW.cell (p := ⟨b, o + (k + 1) * 6 + 5, none⟩) hbr).trans ((HB.out.cell (p := ⟨b, o + (k + 1) * 6 + 5, none⟩) hbl).trans (hev (k + 1) 5 z _ Hz.out rfl)))⟩
        have HD : Hid (∀ (q : Ses) (W : World), Tt.weeksB q.tim.weeks 20 = true → Below wr.heap.size wr W → Calls Tryz.prog 140 #[.agg #[.string q.cls, .int .i64 q.tim.weeks, .int .i64 q.tim.day, .int .i64 q.tim.start, .int .i64 q.tim.len, .string q.room]] W fun e w' => e = .returned (.agg #[.string q.cls, .int .i64 q.tim.weeks, .int .i64 q.tim.day, .int .i64 q.tim.start, .int .i64 q.tim.len, .string q.room, .int .i64 (lowW q)]) ∧ Below W.heap.size W w') := Lib.hid fun q W hq hW => date196 q W hq (HT.out.below HSix.out (HB.out.trans (hW.mono HB.out.size))) (Nat.lt_of_lt_of_le HSix.out (HB.out.trans (hW.mono HB.out.size)).size)
        obtain ⟨od, hod⟩ : ∃ v, v = (if cmpS s.cls z.cls ≠ 0 then cmpS s.cls z.cls else Lib.compareInt (lowW s) (lowW z)) := ⟨_, rfl⟩
        have HO := Lib.hid (fun W => order195 s z (lowW s) (lowW z) W)
        rw [← hod] at HO
        have HBE := Lib.hid (show befB s z = true ↔ od < 0 from by rw [hod]; exact bef_ord)
        have HDs := Lib.hid (fun W hW => HD.out s W HWs.out hW)
        have HDz := Lib.hid (fun W hW => HD.out z W HWz.out hW)
        obtain ⟨la, hla⟩ : ∃ v, v = lowW s := ⟨_, rfl⟩
        obtain ⟨lb, hlb⟩ : ∃ v, v = lowW z := ⟨_, rfl⟩
        rw [← hla] at HDs HO
        rw [← hlb] at HDz HO
        clear hev hs hz hod hla hlb HD; have hsub : ((k : Int) + 1 - 1).toNat = k := by omega
        have hsb2 : (k : Int) + 1 - 1 = (k : Int) := by omega
        have hwk : IntKind.i64.wrap ((k : Int) + 1 - 1) = (k : Int) := by rw [IntKind.wrap_i64]; omega
        have hwk0 : IntKind.i64.wrap (k : Int) = (k : Int) := by rw [IntKind.wrap_i64]; omega
        have hkn : ((k : Int)).toNat = k := by omega
        have hk10 : (0 : Int) ≤ (k : Int) + 1 := by omega
        have hk1n : ((k : Int) + 1).toNat = k + 1 := by omega
        go_wp2_with fail
        go_region_held3 (fun W' => W'.cell? ⟨b, o + k * 6, none⟩ = some (.string s.cls) ∧ W'.cell? ⟨b, o + k * 6 + 1, none⟩ = some (.int .i64 s.tim.weeks) ∧ W'.cell? ⟨b, o + k * 6 + 2, none⟩ = some (.int .i64 s.tim.day) ∧ W'.cell? ⟨b, o + k * 6 + 3, none⟩ = some (.int .i64 s.tim.start) ∧ W'.cell? ⟨b, o + k * 6 + 4, none⟩ = some (.int .i64 s.tim.len) ∧ W'.cell? ⟨b, o + k * 6 + 5, none⟩ = some (.string s.room) ∧ W'.cell? ⟨b, o + (k + 1) * 6, none⟩ = some (.string z.cls) ∧ W'.cell? ⟨b, o + (k + 1) * 6 + 1, none⟩ = some (.int .i64 z.tim.weeks) ∧ W'.cell? ⟨b, o + (k + 1) * 6 + 2, none⟩ = some (.int .i64 z.tim.day) ∧ W'.cell? ⟨b, o + (k + 1) * 6 + 3, none⟩ = some (.int .i64 z.tim.start) ∧ W'.cell? ⟨b, o + (k + 1) * 6 + 4, none⟩ = some (.int .i64 z.tim.len) ∧ W'.cell? ⟨b, o + (k + 1) * 6 + 5, none⟩ = some (.string z.room)) (first | exact HKP.out _ (Below.refl _ _) | exact HKP.out _ (below_drw (Below.refl _ _)) | exact HKP.out _ h5 | exact HKP.out _ h6 | exact HKP.out _ h7) (first | (go_at_call 140; (with_reducible refine (HDs.out _ (below_drw (Below.refl _ _))).mono ?_); rintro e w5 ⟨rfl, h5a⟩; have h5 : Below wr.heap.size wr w5 := (below_drw (Below.refl _ wr)).trans h5a) | (go_at_call 140; (with_reducible refine (HDz.out _ h5).mono ?_); rintro e w6 ⟨rfl, h6a⟩; have h6 : Below wr.heap.size wr w6 := h5.trans (h6a.mono h5.size)) | (go_at_call 139; refine (HO.out _).mono ?_; rintro e w7 ⟨rfl, h7a⟩; have h7 : Below wr.heap.size wr w7 := h6.trans (h7a.mono h6.size)))
        have HB7 := Lib.hid (HB.out.trans (h7.mono HB.out.size))
        clear h5 h6 h7 h5a h6a h7a HKP HDs HDz HO hsub hsb2 hwk hwk0 hkn hk10 hk1n; cases hbe : befB s z
        · have hod : 0 ≤ od := by have := HBE.out; rw [hbe] at this; simp at this; omega
          have HR := Lib.hid (show chgV ls n = 63 from chg_ord HN.out (show ¬ 96 < (ls.length : Int) from by have := HLN.out; omega) HSL.out (by rw [HST.out, hbe]; rfl))
          clear hbe; go_wp2_with fail
          go_ret; exact ⟨ret_int HR.out.symm, HB7.out⟩
        · have hod : od < 0 := by have := HBE.out; rw [hbe] at this; simp at this; omega
          have hod2 : ¬ 0 ≤ od := by omega
          have HK2 := Lib.hid (show ordB ls = ordB (ls.drop (k + 1)) from by rw [HST.out, hbe]; rfl)
          clear hbe; go_wp2_with fail
          go_roundw
          case rel => exact ⟨k + 1, by go_num, by omega, HK2, HB7⟩
          case measure => simp [intOf]; omega
      have hki : ¬ (k : Int) + 1 < (ls.length : Int) := by omega
      have HOB := Lib.hid (show ordB ls = true from by rw [HK.out]; exact ordB_end ls k (by omega))
      obtain ⟨wa2, hwa⟩ : ∃ q, q = wr := ⟨_, rfl⟩
      rw [← hwa] at HB ⊢
      clear hwa; go_wp2_with fail
      clear hki hk hlt HK; go_loopw [56] (fun iv wr => ∃ k : Nat, iv = .int .i64 k ∧ k ≤ ls.length ∧ Hid (dupB [] ls = dupB (ls.take k) (ls.drop k)) ∧ Hid (Below w.heap.size w wr)) (fun iv _ => ls.length - (intOf iv).toNat)
      case atStart => exact ⟨0, rfl, Nat.zero_le _, Lib.hid rfl, HB⟩
      case round =>
        clear HB; obtain ⟨k, rfl, hk, HK, HB⟩ := hrel; by_cases hlt : k < ls.length
        rotate_left
        · have hki : ¬ (k : Int) < (ls.length : Int) := by omega
          have HR := Lib.hid (show chgV ls n = 0 from chg_ok HN.out (show ¬ 96 < (ls.length : Int) from by have := HLN.out; omega) HSL.out HOB.out (by rw [HK.out, List.drop_eq_nil_of_le (by omega)]; rfl))
          go_wp2_with fail
          go_ret; exact ⟨ret_int HR.out.symm, HB.out⟩
        have hki : (k : Int) < (ls.length : Int) := by omega
        have hk0 : (0 : Int) ≤ (k : Int) := by omega
        have hkc : (k : Int) ≤ (c : Int) := by omega
        have hkc2 : k ≤ c := by omega
        obtain ⟨b, o, ha, hbl, hev⟩ := HS.out.form (by omega)
        subst ha; obtain ⟨s, hs⟩ : ∃ s, ls[k]? = some s := ⟨_, List.getElem?_eq_getElem hlt⟩
        have Hs := Lib.hid hs; have x0 : wr.cell? ⟨b, o + k * 6, none⟩ = some (.string s.cls) := (HB.out.cell (p := ⟨b, o + k * 6, none⟩) hbl).trans (hev k 0 s _ Hs.out rfl)
        have x1 : wr.cell? ⟨b, o + k * 6 + 1, none⟩ = some (.int .i64 s.tim.weeks) := (HB.out.cell (p := ⟨b, o + k * 6 + 1, none⟩) hbl).trans (hev k 1 s _ Hs.out rfl)
        have x2 : wr.cell? ⟨b, o + k * 6 + 2, none⟩ = some (.int .i64 s.tim.day) := (HB.out.cell (p := ⟨b, o + k * 6 + 2, none⟩) hbl).trans (hev k 2 s _ Hs.out rfl)
        have x3 : wr.cell? ⟨b, o + k * 6 + 3, none⟩ = some (.int .i64 s.tim.start) := (HB.out.cell (p := ⟨b, o + k * 6 + 3, none⟩) hbl).trans (hev k 3 s _ Hs.out rfl)
        have x4 : wr.cell? ⟨b, o + k * 6 + 4, none⟩ = some (.int .i64 s.tim.len) := (HB.out.cell (p := ⟨b, o + k * 6 + 4, none⟩) hbl).trans (hev k 4 s _ Hs.out rfl)
        have x5 : wr.cell? ⟨b, o + k * 6 + 5, none⟩ = some (.string s.room) := (HB.out.cell (p := ⟨b, o + k * 6 + 5, none⟩) hbl).trans (hev k 5 s _ Hs.out rfl)
        have HST := Lib.hid (HK.out.trans (dupB_step ls k s hs))
        have HEV := Lib.hid hev; clear hev hs; obtain ⟨X, hX⟩ : ∃ x, x = wr.heap.size := ⟨_, rfl⟩
        obtain ⟨w1, hw1⟩ : ∃ x, x = wr.alloc (.cells #[.string s.cls, .int .i64 s.tim.weeks, .int .i64 s.tim.day, .int .i64 s.tim.start, .int .i64 s.tim.len, .string s.room] 110) := ⟨_, rfl⟩
        have HX1 := Lib.hid (show Blk X #[.string s.cls, .int .i64 s.tim.weeks, .int .i64 s.tim.day, .int .i64 s.tim.start, .int .i64 s.tim.len, .string s.room] 110 w1 from by rw [hw1, hX]; exact Blk.new wr _ _)
        have HB1 := Lib.hid (show Below w.heap.size w w1 from by rw [hw1]; exact HB.out.alloc HB.out.size _)
        go_upto_region 20 with (fail)
        rw [← hw1, ← hX]; clear hw1 hX x0 x1 x2 x3 x4 x5; go_wp2_with fail
        go_loopw [65] (fun jv w2 => ∃ j : Nat, jv = .int .i64 j ∧ j ≤ k ∧ Hid (dupB [] ls = (((ls.take k).drop j).any (twiceB s) || dupB (ls.take (k + 1)) (ls.drop (k + 1)))) ∧ Hid (Below w1.heap.size w1 w2)) (fun jv _ => k - (intOf jv).toNat)
        case atStart => exact ⟨0, rfl, Nat.zero_le _, HST, Lib.hid (Below.refl _ _)⟩
        case round =>
          obtain ⟨j, rfl, hj, HJ, HW⟩ := hrel; by_cases hjt : j < k
          rotate_left
          · have hji : ¬ (j : Int) < (k : Int) := by omega
            have HK2 := Lib.hid (show dupB [] ls = dupB (ls.take (k + 1)) (ls.drop (k + 1)) from by rw [HJ.out, List.drop_eq_nil_of_le (by rw [List.length_take]; omega)]; rfl)
            have HB2 := Lib.hid (HB1.out.trans (HW.out.mono HB1.out.size))
            go_wp2_with fail
            go_roundw
            case rel => exact ⟨k + 1, by go_num, by omega, HK2, HB2⟩
            case measure => simp [intOf]; omega
          have hji : (j : Int) < (k : Int) := by omega
          have hj0 : (0 : Int) ≤ (j : Int) := by omega
          obtain ⟨z, hz⟩ : ∃ z, ls[j]? = some z := ⟨_, List.getElem?_eq_getElem (by omega)⟩
          have Hz := Lib.hid hz; have HB2 := Lib.hid (HB1.out.trans (HW.out.mono HB1.out.size))
          have hev := HEV.out; have y0 : wr.cell? ⟨b, o + j * 6, none⟩ = some (.string z.cls) := (HB2.out.cell (p := ⟨b, o + j * 6, none⟩) hbl).trans (hev j 0 z _ Hz.out rfl)
          have y1 : wr.cell? ⟨b, o + j * 6 + 1, none⟩ = some (.int .i64 z.tim.weeks) := (HB2.out.cell (p := ⟨b, o + j * 6 + 1, none⟩) hbl).trans (hev j 1 z _ Hz.out rfl)
          have y2 : wr.cell? ⟨b, o + j * 6 + 2, none⟩ = some (.int .i64 z.tim.day) := (HB2.out.cell (p := ⟨b, o + j * 6 + 2, none⟩) hbl).trans (hev j 2 z _ Hz.out rfl)
          have y3 : wr.cell? ⟨b, o + j * 6 + 3, none⟩ = some (.int .i64 z.tim.start) := (HB2.out.cell (p := ⟨b, o + j * 6 + 3, none⟩) hbl).trans (hev j 3 z _ Hz.out rfl)
          have y4 : wr.cell? ⟨b, o + j * 6 + 4, none⟩ = some (.int .i64 z.tim.len) := (HB2.out.cell (p := ⟨b, o + j * 6 + 4, none⟩) hbl).trans (hev j 4 z _ Hz.out rfl)
          have y5 : wr.cell? ⟨b, o + j * 6 + 5, none⟩ = some (.string z.room) := (HB2.out.cell (p := ⟨b, o + j * 6 + 5, none⟩) hbl).trans (hev j 5 z _ Hz.out rfl)
          have HJ2 := Lib.hid (show dupB [] ls = (meetB s z || likeB s z || (((ls.take k).drop (j + 1)).any (twiceB s) || dupB (ls.take (k + 1)) (ls.drop (k + 1)))) from by rw [HJ.out, any_step (twiceB s) ls k j z hz hjt, Bool.or_assoc]; rfl)
          clear hev hz; obtain ⟨Z, hZ⟩ : ∃ x, x = wr.heap.size := ⟨_, rfl⟩
          obtain ⟨w3, hw3⟩ : ∃ x, x = wr.alloc (.cells #[.string z.cls, .int .i64 z.tim.weeks, .int .i64 z.tim.day, .int .i64 z.tim.start, .int .i64 z.tim.len, .string z.room] 110) := ⟨_, rfl⟩
          have HZ3 := Lib.hid (show Blk Z #[.string z.cls, .int .i64 z.tim.weeks, .int .i64 z.tim.day, .int .i64 z.tim.start, .int .i64 z.tim.len, .string z.room] 110 w3 from by rw [hw3, hZ]; exact Blk.new wr _ _)
          have HW3 := Lib.hid (show Below w1.heap.size w1 w3 from by rw [hw3]; exact HW.out.alloc HW.out.size _)
          go_upto_region 23 with (fail)
          rw [← hw3, ← hZ]; clear hw3 hZ y0 y1 y2 y3 y4 y5; have HX3 := Lib.hid (HX1.out.below HW3.out HX1.out.lt)
          have x0 : w3.cell? ⟨X, 0, none⟩ = some (.string s.cls) := HX3.out.cell 0
          have x1 : w3.cell? ⟨X, 1, none⟩ = some (.int .i64 s.tim.weeks) := HX3.out.cell 1
          have x2 : w3.cell? ⟨X, 2, none⟩ = some (.int .i64 s.tim.day) := HX3.out.cell 2
          have x3 : w3.cell? ⟨X, 3, none⟩ = some (.int .i64 s.tim.start) := HX3.out.cell 3
          have x4 : w3.cell? ⟨X, 4, none⟩ = some (.int .i64 s.tim.len) := HX3.out.cell 4
          have x5 : w3.cell? ⟨X, 5, none⟩ = some (.string s.room) := HX3.out.cell 5
          have y0 : w3.cell? ⟨Z, 0, none⟩ = some (.string z.cls) := HZ3.out.cell 0
          have y1 : w3.cell? ⟨Z, 1, none⟩ = some (.int .i64 z.tim.weeks) := HZ3.out.cell 1
          have y2 : w3.cell? ⟨Z, 2, none⟩ = some (.int .i64 z.tim.day) := HZ3.out.cell 2
          have y3 : w3.cell? ⟨Z, 3, none⟩ = some (.int .i64 z.tim.start) := HZ3.out.cell 3
          have y4 : w3.cell? ⟨Z, 4, none⟩ = some (.int .i64 z.tim.len) := HZ3.out.cell 4
          have y5 : w3.cell? ⟨Z, 5, none⟩ = some (.string z.room) := HZ3.out.cell 5
          have HC := Lib.hid (meet197 s z w3)
          unfold sesVal sesCells at HC
          obtain ⟨M, hM⟩ : ∃ m, m = meetB s z := ⟨_, rfl⟩
          rw [← hM] at HC HJ2
          clear hM; go_wp2_with fail
          refine HC.out.mono ?_
          clear HC; rintro e w4 ⟨rfl, hb⟩; have HW4 := Lib.hid (HW3.out.trans (hb.mono HW3.out.size))
          have HX4 := Lib.hid (HX3.out.below hb HX3.out.lt)
          have HZ4 := Lib.hid (HZ3.out.below hb HZ3.out.lt)
          clear hb x0 y0 x1 y1 x2 y2 x3 y3 x4 y4 x5 y5; cases M
          rotate_left
          · have HR := Lib.hid (show chgV ls n = 11 from chg_dup HN.out (show ¬ 96 < (ls.length : Int) from by have := HLN.out; omega) HSL.out HOB.out (by rw [HJ2.out]; rfl))
            have HB4 := Lib.hid (HB1.out.trans (HW4.out.mono HB1.out.size))
            go_wp2_with fail
            go_ret; exact ⟨ret_int HR.out.symm, HB4.out⟩
          have x0 : w4.cell? ⟨X, 0, none⟩ = some (.string s.cls) := HX4.out.cell 0
          have x1 : w4.cell? ⟨X, 1, none⟩ = some (.int .i64 s.tim.weeks) := HX4.out.cell 1
          have x2 : w4.cell? ⟨X, 2, none⟩ = some (.int .i64 s.tim.day) := HX4.out.cell 2
          have x3 : w4.cell? ⟨X, 3, none⟩ = some (.int .i64 s.tim.start) := HX4.out.cell 3
          have x4 : w4.cell? ⟨X, 4, none⟩ = some (.int .i64 s.tim.len) := HX4.out.cell 4
          have x5 : w4.cell? ⟨X, 5, none⟩ = some (.string s.room) := HX4.out.cell 5
          have y0 : w4.cell? ⟨Z, 0, none⟩ = some (.string z.cls) := HZ4.out.cell 0
          have y1 : w4.cell? ⟨Z, 1, none⟩ = some (.int .i64 z.tim.weeks) := HZ4.out.cell 1
          have y2 : w4.cell? ⟨Z, 2, none⟩ = some (.int .i64 z.tim.day) := HZ4.out.cell 2
          have y3 : w4.cell? ⟨Z, 3, none⟩ = some (.int .i64 z.tim.start) := HZ4.out.cell 3
          have y4 : w4.cell? ⟨Z, 4, none⟩ = some (.int .i64 z.tim.len) := HZ4.out.cell 4
          have y5 : w4.cell? ⟨Z, 5, none⟩ = some (.string z.room) := HZ4.out.cell 5
          have HC := Lib.hid (alike198 s z w4)
          unfold sesVal sesCells at HC
          obtain ⟨K, hK⟩ : ∃ m, m = likeB s z := ⟨_, rfl⟩
          rw [← hK] at HC HJ2
          clear hK; go_wp2_with fail
          refine HC.out.mono ?_
          clear HC; rintro e w5 ⟨rfl, hb⟩; have HW5 := Lib.hid (HW4.out.trans (hb.mono HW4.out.size))
          clear hb x0 y0 x1 y1 x2 y2 x3 y3 x4 y4 x5 y5; cases K
          rotate_left
          · have HR := Lib.hid (show chgV ls n = 11 from chg_dup HN.out (show ¬ 96 < (ls.length : Int) from by have := HLN.out; omega) HSL.out HOB.out (by rw [HJ2.out]; rfl))
            have HB5 := Lib.hid (HB1.out.trans (HW5.out.mono HB1.out.size))
            go_wp2_with fail
            go_ret; exact ⟨ret_int HR.out.symm, HB5.out⟩
          have HJ3 := Lib.hid (show dupB [] ls = (((ls.take k).drop (j + 1)).any (twiceB s) || dupB (ls.take (k + 1)) (ls.drop (k + 1))) from HJ2.out)
          go_wp2_with fail
          go_roundw
          case rel => exact ⟨j + 1, by go_num, by omega, HJ3, HW5⟩
          case measure => simp [intOf]; omega
set_option maxHeartbeats 8000000 in
set_option maxRecDepth 100000 in
theorem chg151 (ls : List Ses) (n : Int) (ao : Option Addr) (c B : Nat) (w : World) (hB : B ≤ w.heap.size) (hS : SesAt B w ao ls) (hn : ls.length ≤ 4611686018427387903) : Calls Tryz.prog 44 #[.slice ao ls.length c, .int .i64 n] w fun e w' => e = .returned (.int .i64 (chgV ls n)) ∧ Below w.heap.size w w' := by
  have HS := Lib.hid (hS.mono hB)
  have hnn := hn; clear hS hn; by_cases hn : n < 1 ∨ 20 < n
  · have HR := Lib.hid (chg_range (l := ls) hn)
    rcases hn with hn | hn
    · go_enter Tryz.func44, Tryz.ntmps44
      go_wp2_with fail
      go_ret; exact ⟨ret_int HR.out.symm, Below.refl _ _⟩
    · have hn1 : ¬ n < 1 := by omega
      go_enter Tryz.func44, Tryz.ntmps44
      go_wp2_with fail
      go_ret; exact ⟨ret_int HR.out.symm, Below.refl _ _⟩
  have HN := Lib.hid hn; have hn1 : ¬ n < 1 := by omega
  have hn2 : ¬ 20 < n := by omega
  clear hn; by_cases hl : 96 < (ls.length : Int)
  · have HR := Lib.hid (chg_size HN.out hl)
    go_enter Tryz.func44, Tryz.ntmps44
    go_wp2_with fail
    go_ret; exact ⟨ret_int HR.out.symm, Below.refl _ _⟩
  have HLN := Lib.hid (show (ls.length : Int) ≤ 96 from by omega)
  go_enter Tryz.func44, Tryz.ntmps44
  go_wp2_with fail
  go_loopw [5] (fun iv wr => ∃ k : Nat, iv = .int .i64 k ∧ k ≤ ls.length ∧ Hid (sesL n ls = sesL n (ls.drop k)) ∧ Hid (Below w.heap.size w wr)) (fun iv _ => ls.length - (intOf iv).toNat)
  case atStart => exact ⟨0, rfl, Nat.zero_le _, Lib.hid rfl, Lib.hid (Below.refl _ _)⟩
  case round =>
    obtain ⟨k, rfl, hk, HK, HB⟩ := hrel; by_cases hlt : k < ls.length
    · have hki : (k : Int) < (ls.length : Int) := by omega
      have hk0 : (0 : Int) ≤ (k : Int) := by omega
      obtain ⟨b, o, ha, hbl, hev⟩ := HS.out.form (by omega)
      subst ha; obtain ⟨s, hs⟩ : ∃ s, ls[k]? = some s := ⟨_, List.getElem?_eq_getElem hlt⟩
      have Hs := Lib.hid hs; have x0 : wr.cell? ⟨b, o + k * 6, none⟩ = some (.string s.cls) := (HB.out.cell (p := ⟨b, o + k * 6, none⟩) hbl).trans (hev k 0 s _ Hs.out rfl)
      have x1 : wr.cell? ⟨b, o + k * 6 + 1, none⟩ = some (.int .i64 s.tim.weeks) := (HB.out.cell (p := ⟨b, o + k * 6 + 1, none⟩) hbl).trans (hev k 1 s _ Hs.out rfl)
      have x2 : wr.cell? ⟨b, o + k * 6 + 2, none⟩ = some (.int .i64 s.tim.day) := (HB.out.cell (p := ⟨b, o + k * 6 + 2, none⟩) hbl).trans (hev k 2 s _ Hs.out rfl)
      have x3 : wr.cell? ⟨b, o + k * 6 + 3, none⟩ = some (.int .i64 s.tim.start) := (HB.out.cell (p := ⟨b, o + k * 6 + 3, none⟩) hbl).trans (hev k 3 s _ Hs.out rfl)
      have x4 : wr.cell? ⟨b, o + k * 6 + 4, none⟩ = some (.int .i64 s.tim.len) := (HB.out.cell (p := ⟨b, o + k * 6 + 4, none⟩) hbl).trans (hev k 4 s _ Hs.out rfl)
      have x5 : wr.cell? ⟨b, o + k * 6 + 5, none⟩ = some (.string s.room) := (HB.out.cell (p := ⟨b, o + k * 6 + 5, none⟩) hbl).trans (hev k 5 s _ Hs.out rfl)
      have HST := Lib.hid (HK.out.trans (sesL_step n ls k s hs))
      clear hev hs; have HC := Lib.hid (check225 s n wr)
      unfold sesVal sesCells at HC
      obtain ⟨E, hE⟩ : ∃ e, e = sesE s n := ⟨_, rfl⟩
      rw [← hE] at HC HST
      clear hE; go_wp2_with fail
      refine HC.out.mono ?_
      clear HC; rintro e w2 ⟨rfl, hb⟩; have HB2 := Lib.hid (HB.out.trans (hb.mono HB.out.size))
      clear hb x0 x1 x2 x3 x4 x5; by_cases hE : E = 0
      · subst hE; have HK2 := Lib.hid (show sesL n ls = sesL n (ls.drop (k + 1)) from HST.out.trans (if_neg (by simp)))
        go_wp2_with fail
        go_roundw
        case rel => exact ⟨k + 1, by go_num, by omega, HK2, HB2⟩
        case measure => simp [intOf]; omega
      · have HR := Lib.hid (show chgV ls n = E from by have h := HST.out.trans (if_pos hE); rw [chg_ses HN.out (show ¬ 96 < (ls.length : Int) from by have := HLN.out; omega) (by rw [h]; exact hE), h])
        have hE2 : (E == 0) = false := by simpa using hE
        have hE3 : (E != 0) = true := by simpa using hE
        go_wp2_with fail
        go_ret; exact ⟨ret_int HR.out.symm, HB2.out⟩
    have hki : ¬ (k : Int) < (ls.length : Int) := by omega
    have HSL := Lib.hid (show sesL n ls = 0 from by rw [HK.out, List.drop_eq_nil_of_le (by omega)]; rfl)
    obtain ⟨wa, hwa⟩ : ∃ q, q = wr := ⟨_, rfl⟩
    rw [← hwa] at HB ⊢
    clear hwa; have HSE := Lib.hid (sesL_each n ls HSL.out)
    go_wp2_with fail
    clear hki hk hlt HK; go_loopw [7] (fun iv wr => ∃ k : Nat, iv = .int .i64 ((k : Int) + 1) ∧ k ≤ ls.length ∧ Hid (ordB ls = ordB (ls.drop k)) ∧ Hid (Below w.heap.size w wr)) (fun iv _ => ls.length + 1 - (intOf iv).toNat)
    case atStart => exact ⟨0, rfl, Nat.zero_le _, Lib.hid rfl, HB⟩
    case round =>
      clear HB; obtain ⟨k, rfl, hk, HK, HB⟩ := hrel; by_cases hlt : k + 1 < ls.length
      · have hki : (k : Int) + 1 < (ls.length : Int) := by omega
        have hk0 : (0 : Int) ≤ (k : Int) := by omega
        have hkl : (k : Int) < (ls.length : Int) := by omega
        obtain ⟨b, o, ha, hbl, hev⟩ := HS.out.form (by omega)
        subst ha; obtain ⟨s, hs⟩ : ∃ s, ls[k]? = some s := ⟨_, List.getElem?_eq_getElem (by omega)⟩
        obtain ⟨z, hz⟩ : ∃ z, ls[k + 1]? = some z := ⟨_, List.getElem?_eq_getElem hlt⟩
        have Hs := Lib.hid hs; have Hz := Lib.hid hz; have HST := Lib.hid (HK.out.trans (ordB_step ls k s z hs hz))
        have HWs := Lib.hid (sesE_low (HSE.out s (List.mem_of_getElem? hs)))
        have HWz := Lib.hid (sesE_low (HSE.out z (List.mem_of_getElem? hz)))
        have hbr : b < wr.heap.size := Nat.lt_of_lt_of_le hbl HB.out.size
        have HKP : Hid (∀ W' : World, Below wr.heap.size wr W' → W'.cell? ⟨b, o + k * 6, none⟩ = some (.string s.cls) ∧ W'.cell? ⟨b, o + k * 6 + 1, none⟩ = some (.int .i64 s.tim.weeks) ∧ W'.cell? ⟨b, o + k * 6 + 2, none⟩ = some (.int .i64 s.tim.day) ∧ W'.cell? ⟨b, o + k * 6 + 3, none⟩ = some (.int .i64 s.tim.start) ∧ W'.cell? ⟨b, o + k * 6 + 4, none⟩ = some (.int .i64 s.tim.len) ∧ W'.cell? ⟨b, o + k * 6 + 5, none⟩ = some (.string s.room) ∧ W'.cell? ⟨b, o + (k + 1) * 6, none⟩ = some (.string z.cls) ∧ W'.cell? ⟨b, o + (k + 1) * 6 + 1, none⟩ = some (.int .i64 z.tim.weeks) ∧ W'.cell? ⟨b, o + (k + 1) * 6 + 2, none⟩ = some (.int .i64 z.tim.day) ∧ W'.cell? ⟨b, o + (k + 1) * 6 + 3, none⟩ = some (.int .i64 z.tim.start) ∧ W'.cell? ⟨b, o + (k + 1) * 6 + 4, none⟩ = some (.int .i64 z.tim.len) ∧ W'.cell? ⟨b, o + (k + 1) * 6 + 5, none⟩ = some (.string z.room)) := Lib.hid fun W' hW => ⟨((hW.cell (p := ⟨b, o + k * 6, none⟩) hbr).trans ((HB.out.cell (p := ⟨b, o + k * 6, none⟩) hbl).trans (hev k 0 s _ Hs.out rfl))), ((hW.cell (p := ⟨b, o + k * 6 + 1, none⟩) hbr).trans ((HB.out.cell (p := ⟨b, o + k * 6 + 1, none⟩) hbl).trans (hev k 1 s _ Hs.out rfl))), ((hW.cell (p := ⟨b, o + k * 6 + 2, none⟩) hbr).trans ((HB.out.cell (p := ⟨b, o + k * 6 + 2, none⟩) hbl).trans (hev k 2 s _ Hs.out rfl))), ((hW.cell (p := ⟨b, o + k * 6 + 3, none⟩) hbr).trans ((HB.out.cell (p := ⟨b, o + k * 6 + 3, none⟩) hbl).trans (hev k 3 s _ Hs.out rfl))), ((hW.cell (p := ⟨b, o + k * 6 + 4, none⟩) hbr).trans ((HB.out.cell (p := ⟨b, o + k * 6 + 4, none⟩) hbl).trans (hev k 4 s _ Hs.out rfl))), ((hW.cell (p := ⟨b, o + k * 6 + 5, none⟩) hbr).trans ((HB.out.cell (p := ⟨b, o + k * 6 + 5, none⟩) hbl).trans (hev k 5 s _ Hs.out rfl))), ((hW.cell (p := ⟨b, o + (k + 1) * 6, none⟩) hbr).trans ((HB.out.cell (p := ⟨b, o + (k + 1) * 6, none⟩) hbl).trans (hev (k + 1) 0 z _ Hz.out rfl))), ((hW.cell (p := ⟨b, o + (k + 1) * 6 + 1, none⟩) hbr).trans ((HB.out.cell (p := ⟨b, o + (k + 1) * 6 + 1, none⟩) hbl).trans (hev (k + 1) 1 z _ Hz.out rfl))), ((hW.cell (p := ⟨b, o + (k + 1) * 6 + 2, none⟩) hbr).trans ((HB.out.cell (p := ⟨b, o + (k + 1) * 6 + 2, none⟩) hbl).trans (hev (k + 1) 2 z _ Hz.out rfl))), ((hW.cell (p := ⟨b, o + (k + 1) * 6 + 3, none⟩) hbr).trans ((HB.out.cell (p := ⟨b, o + (k + 1) * 6 + 3, none⟩) hbl).trans (hev (k + 1) 3 z _ Hz.out rfl))), ((hW.cell (p := ⟨b, o + (k + 1) * 6 + 4, none⟩) hbr).trans ((HB.out.cell (p := ⟨b, o + (k + 1) * 6 + 4, none⟩) hbl).trans (hev (k + 1) 4 z _ Hz.out rfl))), ((hW.cell (p := ⟨b, o + (k + 1) * 6 + 5, none⟩) hbr).trans ((HB.out.cell (p := ⟨b, o + (k + 1) * 6 + 5, none⟩) hbl).trans (hev (k + 1) 5 z _ Hz.out rfl)))⟩
        have HC := Lib.hid (fun W => before226 s z W HWs.out HWz.out)
        unfold sesVal sesCells at HC
        obtain ⟨M, hM⟩ : ∃ m, m = befB s z := ⟨_, rfl⟩
        rw [← hM] at HC HST
        clear hM hev hs hz; have hwk : IntKind.i64.wrap ((k : Int) + 1 - 1) = (k : Int) := by rw [IntKind.wrap_i64]; omega
        have hwk0 : IntKind.i64.wrap (k : Int) = (k : Int) := by rw [IntKind.wrap_i64]; omega
        have hkn : ((k : Int)).toNat = k := by omega
        have hk10 : (0 : Int) ≤ (k : Int) + 1 := by omega
        have hk1n : ((k : Int) + 1).toNat = k + 1 := by omega
        go_wp2_with fail
        go_region_held3 (fun W' => W'.cell? ⟨b, o + k * 6, none⟩ = some (.string s.cls) ∧ W'.cell? ⟨b, o + k * 6 + 1, none⟩ = some (.int .i64 s.tim.weeks) ∧ W'.cell? ⟨b, o + k * 6 + 2, none⟩ = some (.int .i64 s.tim.day) ∧ W'.cell? ⟨b, o + k * 6 + 3, none⟩ = some (.int .i64 s.tim.start) ∧ W'.cell? ⟨b, o + k * 6 + 4, none⟩ = some (.int .i64 s.tim.len) ∧ W'.cell? ⟨b, o + k * 6 + 5, none⟩ = some (.string s.room) ∧ W'.cell? ⟨b, o + (k + 1) * 6, none⟩ = some (.string z.cls) ∧ W'.cell? ⟨b, o + (k + 1) * 6 + 1, none⟩ = some (.int .i64 z.tim.weeks) ∧ W'.cell? ⟨b, o + (k + 1) * 6 + 2, none⟩ = some (.int .i64 z.tim.day) ∧ W'.cell? ⟨b, o + (k + 1) * 6 + 3, none⟩ = some (.int .i64 z.tim.start) ∧ W'.cell? ⟨b, o + (k + 1) * 6 + 4, none⟩ = some (.int .i64 z.tim.len) ∧ W'.cell? ⟨b, o + (k + 1) * 6 + 5, none⟩ = some (.string z.room)) (first | exact HKP.out _ (Below.refl _ _) | exact HKP.out _ (below_drw (Below.refl _ _)) | exact HKP.out _ h5) (first | (go_at_call 91; (with_reducible refine (HC.out _).mono ?_); rintro e w5 ⟨rfl, h5a⟩; have h5 : Below wr.heap.size wr w5 := (below_drw (Below.refl _ wr)).trans h5a))
        have HB7 := Lib.hid (HB.out.trans (h5.mono HB.out.size))
        clear h5 h5a HKP HC hwk hwk0 hkn hk10 hk1n; cases M
        · have HR := Lib.hid (show chgV ls n = 63 from chg_ord HN.out (show ¬ 96 < (ls.length : Int) from by have := HLN.out; omega) HSL.out (by rw [HST.out]; rfl))
          go_wp2_with fail
          go_ret; exact ⟨ret_int HR.out.symm, HB7.out⟩
        · have HK2 := Lib.hid (show ordB ls = ordB (ls.drop (k + 1)) from by rw [HST.out]; rfl)
          go_wp2_with fail
          go_roundw
          case rel => exact ⟨k + 1, by go_num, by omega, HK2, HB7⟩
          case measure => simp [intOf]; omega
      have hki : ¬ (k : Int) + 1 < (ls.length : Int) := by omega
      have HOB := Lib.hid (show ordB ls = true from by rw [HK.out]; exact ordB_end ls k (by omega))
      obtain ⟨wa2, hwa⟩ : ∃ q, q = wr := ⟨_, rfl⟩
      rw [← hwa] at HB ⊢
      clear hwa; go_wp2_with fail
      clear hki hk hlt HK; go_loopw [8] (fun iv wr => ∃ k : Nat, iv = .int .i64 k ∧ k ≤ ls.length ∧ Hid (dupB [] ls = dupB (ls.take k) (ls.drop k)) ∧ Hid (Below w.heap.size w wr)) (fun iv _ => ls.length - (intOf iv).toNat)
      case atStart => exact ⟨0, rfl, Nat.zero_le _, Lib.hid rfl, HB⟩
      case round =>
        clear HB; obtain ⟨k, rfl, hk, HK, HB⟩ := hrel; by_cases hlt : k < ls.length
        rotate_left
        · have hki : ¬ (k : Int) < (ls.length : Int) := by omega
          have HR := Lib.hid (show chgV ls n = 0 from chg_ok HN.out (show ¬ 96 < (ls.length : Int) from by have := HLN.out; omega) HSL.out HOB.out (by rw [HK.out, List.drop_eq_nil_of_le (by omega)]; rfl))
          go_wp2_with fail
          go_ret; exact ⟨ret_int HR.out.symm, HB.out⟩
        have hki : (k : Int) < (ls.length : Int) := by omega
        have hk0 : (0 : Int) ≤ (k : Int) := by omega
        obtain ⟨b, o, ha, hbl, hev⟩ := HS.out.form (by omega)
        subst ha; obtain ⟨s, hs⟩ : ∃ s, ls[k]? = some s := ⟨_, List.getElem?_eq_getElem hlt⟩
        have Hs := Lib.hid hs; have HST := Lib.hid (HK.out.trans (dupB_step ls k s hs))
        have HEV := Lib.hid hev; obtain ⟨wb, hwb⟩ : ∃ q, q = wr := ⟨_, rfl⟩
        rw [← hwb] at HB ⊢
        clear hev hs hwb; have HBO := HB; clear HB; go_wp2_with fail
        go_loopw [9] (fun jv w2 => ∃ j : Nat, jv = .int .i64 j ∧ j ≤ k ∧ Hid (dupB [] ls = (((ls.take k).drop j).any (twiceB s) || dupB (ls.take (k + 1)) (ls.drop (k + 1)))) ∧ Hid (Below w.heap.size w w2)) (fun jv _ => k - (intOf jv).toNat)
        case atStart => exact ⟨0, rfl, Nat.zero_le _, HST, HBO⟩
        case round =>
          clear HBO; obtain ⟨j, rfl, hj, HJ, HB⟩ := hrel; by_cases hjt : j < k
          rotate_left
          · have hji : ¬ (j : Int) < (k : Int) := by omega
            have HK2 := Lib.hid (show dupB [] ls = dupB (ls.take (k + 1)) (ls.drop (k + 1)) from by rw [HJ.out, List.drop_eq_nil_of_le (by rw [List.length_take]; omega)]; rfl)
            go_wp2_with fail
            go_roundw
            case rel => exact ⟨k + 1, by go_num, by omega, HK2, HB⟩
            case measure => simp [intOf]; omega
          have hji : (j : Int) < (k : Int) := by omega
          have hjl : (j : Int) < (ls.length : Int) := by omega
          have hj0 : (0 : Int) ≤ (j : Int) := by omega
          obtain ⟨z, hz⟩ : ∃ z, ls[j]? = some z := ⟨_, List.getElem?_eq_getElem (by omega)⟩
          have Hz := Lib.hid hz; have hev := HEV.out; have hbr : b < wr.heap.size := Nat.lt_of_lt_of_le hbl HB.out.size
          have HKP : Hid (∀ W' : World, Below wr.heap.size wr W' → W'.cell? ⟨b, o + k * 6, none⟩ = some (.string s.cls) ∧ W'.cell? ⟨b, o + k * 6 + 1, none⟩ = some (.int .i64 s.tim.weeks) ∧ W'.cell? ⟨b, o + k * 6 + 2, none⟩ = some (.int .i64 s.tim.day) ∧ W'.cell? ⟨b, o + k * 6 + 3, none⟩ = some (.int .i64 s.tim.start) ∧ W'.cell? ⟨b, o + k * 6 + 4, none⟩ = some (.int .i64 s.tim.len) ∧ W'.cell? ⟨b, o + k * 6 + 5, none⟩ = some (.string s.room) ∧ W'.cell? ⟨b, o + j * 6, none⟩ = some (.string z.cls) ∧ W'.cell? ⟨b, o + j * 6 + 1, none⟩ = some (.int .i64 z.tim.weeks) ∧ W'.cell? ⟨b, o + j * 6 + 2, none⟩ = some (.int .i64 z.tim.day) ∧ W'.cell? ⟨b, o + j * 6 + 3, none⟩ = some (.int .i64 z.tim.start) ∧ W'.cell? ⟨b, o + j * 6 + 4, none⟩ = some (.int .i64 z.tim.len) ∧ W'.cell? ⟨b, o + j * 6 + 5, none⟩ = some (.string z.room)) := Lib.hid fun W' hW => ⟨((hW.cell (p := ⟨b, o + k * 6, none⟩) hbr).trans ((HB.out.cell (p := ⟨b, o + k * 6, none⟩) hbl).trans (hev k 0 s _ Hs.out rfl))), ((hW.cell (p := ⟨b, o + k * 6 + 1, none⟩) hbr).trans ((HB.out.cell (p := ⟨b, o + k * 6 + 1, none⟩) hbl).trans (hev k 1 s _ Hs.out rfl))), ((hW.cell (p := ⟨b, o + k * 6 + 2, none⟩) hbr).trans ((HB.out.cell (p := ⟨b, o + k * 6 + 2, none⟩) hbl).trans (hev k 2 s _ Hs.out rfl))), ((hW.cell (p := ⟨b, o + k * 6 + 3, none⟩) hbr).trans ((HB.out.cell (p := ⟨b, o + k * 6 + 3, none⟩) hbl).trans (hev k 3 s _ Hs.out rfl))), ((hW.cell (p := ⟨b, o + k * 6 + 4, none⟩) hbr).trans ((HB.out.cell (p := ⟨b, o + k * 6 + 4, none⟩) hbl).trans (hev k 4 s _ Hs.out rfl))), ((hW.cell (p := ⟨b, o + k * 6 + 5, none⟩) hbr).trans ((HB.out.cell (p := ⟨b, o + k * 6 + 5, none⟩) hbl).trans (hev k 5 s _ Hs.out rfl))), ((hW.cell (p := ⟨b, o + j * 6, none⟩) hbr).trans ((HB.out.cell (p := ⟨b, o + j * 6, none⟩) hbl).trans (hev j 0 z _ Hz.out rfl))), ((hW.cell (p := ⟨b, o + j * 6 + 1, none⟩) hbr).trans ((HB.out.cell (p := ⟨b, o + j * 6 + 1, none⟩) hbl).trans (hev j 1 z _ Hz.out rfl))), ((hW.cell (p := ⟨b, o + j * 6 + 2, none⟩) hbr).trans ((HB.out.cell (p := ⟨b, o + j * 6 + 2, none⟩) hbl).trans (hev j 2 z _ Hz.out rfl))), ((hW.cell (p := ⟨b, o + j * 6 + 3, none⟩) hbr).trans ((HB.out.cell (p := ⟨b, o + j * 6 + 3, none⟩) hbl).trans (hev j 3 z _ Hz.out rfl))), ((hW.cell (p := ⟨b, o + j * 6 + 4, none⟩) hbr).trans ((HB.out.cell (p := ⟨b, o + j * 6 + 4, none⟩) hbl).trans (hev j 4 z _ Hz.out rfl))), ((hW.cell (p := ⟨b, o + j * 6 + 5, none⟩) hbr).trans ((HB.out.cell (p := ⟨b, o + j * 6 + 5, none⟩) hbl).trans (hev j 5 z _ Hz.out rfl)))⟩
          have HJ2 := Lib.hid (show dupB [] ls = (meetB s z || likeB s z || (((ls.take k).drop (j + 1)).any (twiceB s) || dupB (ls.take (k + 1)) (ls.drop (k + 1)))) from by rw [HJ.out, any_step (twiceB s) ls k j z hz hjt, Bool.or_assoc]; rfl)
          clear hev hz; by_cases hc : s.cls = z.cls
          rotate_left
          · have hcb := ne_bytes hc; have HJ3 := Lib.hid (show dupB [] ls = (((ls.take k).drop (j + 1)).any (twiceB s) || dupB (ls.take (k + 1)) (ls.drop (k + 1))) from by rw [HJ2.out, show meetB s z = false from by unfold meetB; rw [decide_eq_false hc]; rfl, show likeB s z = false from by unfold likeB; rw [decide_eq_false hc]; rfl]; rfl)
            clear hc; obtain ⟨x0, x1, x2, x3, x4, x5, y0, y1, y2, y3, y4, y5⟩ := HKP.out wr (Below.refl _ _)
            go_wp2_with fail
            go_quiet (fail)
            clear hcb; clear x0 y0 x1 y1 x2 y2 x3 y3 x4 y4 x5 y5 HKP; obtain ⟨wq, hwq, hB2, hC2, hH2⟩ := redrew wr nq
            have HBq := Lib.hid (HB.out.trans (hB2 _))
            rw [← hwq]; clear hwq hB2 hC2 hH2; go_wp2_with fail
            go_roundw
            case rel => exact ⟨j + 1, by go_num, by omega, HJ3, HBq⟩
            case measure => simp [intOf]; omega
          have hcb : (s.cls.toList == z.cls.toList) = true := by rw [hc]; simp
          cases hwk : wk2 s z
          rotate_left
          · have HD1 := Lib.hid (show dupB [] ls = true from by rw [HJ2.out, show meetB s z = true from by unfold meetB; rw [decide_eq_true hc, hwk]; rfl]; rfl)
            have hwb : (bits .and .i64 s.tim.weeks z.tim.weeks != 0) = true := hwk
            have hwb2 : (bits .and .i64 s.tim.weeks z.tim.weeks == 0) = false := by simpa using hwb
            clear hc hwk; obtain ⟨x0, x1, x2, x3, x4, x5, y0, y1, y2, y3, y4, y5⟩ := HKP.out wr (Below.refl _ _)
            go_wp2_with fail
            go_quiet (fail)
            clear hcb hwb hwb2; clear x0 y0 x1 y1 x2 y2 x3 y3 x4 y4 x5 y5 HKP; obtain ⟨wq, hwq, hB2, hC2, hH2⟩ := redrew wr nq
            have HBq := Lib.hid (HB.out.trans (hB2 _))
            rw [← hwq]; clear hwq hB2 hC2 hH2; have HR := Lib.hid (show chgV ls n = 11 from chg_dup HN.out (show ¬ 96 < (ls.length : Int) from by have := HLN.out; omega) HSL.out HOB.out HD1.out)
            go_wp2_with fail
            go_ret; exact ⟨ret_int HR.out.symm, HBq.out⟩
          have HM := Lib.hid (show meetB s z = false from by unfold meetB; rw [hwk, Bool.and_false])
          have hwb : (bits .and .i64 s.tim.weeks z.tim.weeks != 0) = false := hwk
          have hwb2 : (bits .and .i64 s.tim.weeks z.tim.weeks == 0) = true := by simpa using hwb
          clear hc hwk; rw [HM.out] at HJ2
          have HC := Lib.hid (fun W => alike227 s z W)
          unfold sesVal sesCells at HC
          obtain ⟨K, hK⟩ : ∃ m, m = likeB s z := ⟨_, rfl⟩
          rw [← hK] at HC HJ2
          clear hK; go_wp2_with fail
          go_region_held3 (fun W' => W'.cell? ⟨b, o + k * 6, none⟩ = some (.string s.cls) ∧ W'.cell? ⟨b, o + k * 6 + 1, none⟩ = some (.int .i64 s.tim.weeks) ∧ W'.cell? ⟨b, o + k * 6 + 2, none⟩ = some (.int .i64 s.tim.day) ∧ W'.cell? ⟨b, o + k * 6 + 3, none⟩ = some (.int .i64 s.tim.start) ∧ W'.cell? ⟨b, o + k * 6 + 4, none⟩ = some (.int .i64 s.tim.len) ∧ W'.cell? ⟨b, o + k * 6 + 5, none⟩ = some (.string s.room) ∧ W'.cell? ⟨b, o + j * 6, none⟩ = some (.string z.cls) ∧ W'.cell? ⟨b, o + j * 6 + 1, none⟩ = some (.int .i64 z.tim.weeks) ∧ W'.cell? ⟨b, o + j * 6 + 2, none⟩ = some (.int .i64 z.tim.day) ∧ W'.cell? ⟨b, o + j * 6 + 3, none⟩ = some (.int .i64 z.tim.start) ∧ W'.cell? ⟨b, o + j * 6 + 4, none⟩ = some (.int .i64 z.tim.len) ∧ W'.cell? ⟨b, o + j * 6 + 5, none⟩ = some (.string z.room)) (first | exact HKP.out _ (Below.refl _ _) | exact HKP.out _ (below_drw (Below.refl _ _)) | exact HKP.out _ h5) (first | (go_at_call 92; (with_reducible refine (HC.out _).mono ?_); rintro e w5 ⟨rfl, h5a⟩; have h5 : Below wr.heap.size wr w5 := (below_drw (Below.refl _ wr)).trans h5a))
          have HB5 := Lib.hid (HB.out.trans (h5.mono HB.out.size))
          clear h5 h5a HKP HC hcb hwb hwb2; cases K
          rotate_left
          · have HD1 := Lib.hid (show dupB [] ls = true from by rw [HJ2.out]; rfl)
            have HR := Lib.hid (show chgV ls n = 11 from chg_dup HN.out (show ¬ 96 < (ls.length : Int) from by have := HLN.out; omega) HSL.out HOB.out HD1.out)
            go_wp2_with fail
            go_ret; exact ⟨ret_int HR.out.symm, HB5.out⟩
          have HJ3 := Lib.hid (show dupB [] ls = (((ls.take k).drop (j + 1)).any (twiceB s) || dupB (ls.take (k + 1)) (ls.drop (k + 1))) from HJ2.out)
          go_wp2_with fail
          go_roundw
          case rel => exact ⟨j + 1, by go_num, by omega, HJ3, HB5⟩
          case measure => simp [intOf]; omega
end Go.Proofs.YtcomifbfldoeiaaGreatDoor
