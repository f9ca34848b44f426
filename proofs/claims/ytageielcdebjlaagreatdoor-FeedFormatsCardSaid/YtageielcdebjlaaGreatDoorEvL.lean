/- The lines of an event, and the program's writing of them. -/
import Derived.Test.YtageielcdebjlaaGreatDoorPk13
import Derived.Test.YtageielcdebjlaaGreatDoorPk21
import Derived.Test.YtageielcdebjlaaGreatDoorGenE
namespace Go.Proofs.YtageielcdebjlaaGreatDoor
open Go.RowKit

/-- The lines of an event, ahead of its exceptions. -/
def evA (e : Ev) (z : List UInt8) : List (List UInt8) :=
  [[66, 69, 71, 73, 78, 58, 86, 69, 86, 69, 78, 84], [85, 73, 68, 58] ++ e.uid.data.toList, [83, 69, 81, 85, 69, 78, 67, 69, 58] ++ Lib.decDigits e.seq.toNat, [68, 84, 83, 84, 65, 82, 84, 59, 84, 90, 73, 68, 61] ++ z ++ [58] ++ Tt.stampL e.days.first e.start, [68, 85, 82, 65, 84, 73, 79, 78, 58, 80, 84] ++ Lib.decDigits e.mins.toNat ++ [77], [82, 82, 85, 76, 69, 58] ++ Tt.ruleL e.days]
def evX (e : Ev) (z : List UInt8) : List (List UInt8) := if e.days.ex = [] then [] else [[69, 88, 68, 65, 84, 69, 59, 84, 90, 73, 68, 61] ++ z ++ [58] ++ Tt.stampsL e.start e.days.ex]
def evR (e : Ev) (z : List UInt8) : List (List UInt8) := if e.days.xt = [] then [] else [[82, 68, 65, 84, 69, 59, 84, 90, 73, 68, 61] ++ z ++ [58] ++ Tt.stampsL e.start e.days.xt]
def evS (e : Ev) : List (List UInt8) := [[83, 85, 77, 77, 65, 82, 89, 58] ++ Tt.esc e.summ.data.toList]
def evL (e : Ev) : List (List UInt8) := if e.loc = ⟨#[]⟩ then [] else [[76, 79, 67, 65, 84, 73, 79, 78, 58] ++ Tt.esc e.loc.data.toList]
def evC (e : Ev) : List (List UInt8) := [if e.canc = true then [83, 84, 65, 84, 85, 83, 58, 67, 65, 78, 67, 69, 76, 76, 69, 68] else [83, 84, 65, 84, 85, 83, 58, 67, 79, 78, 70, 73, 82, 77, 69, 68], [69, 78, 68, 58, 86, 69, 86, 69, 78, 84]]
/-- The lines of an event. -/
def evLines (e : Ev) (z : List UInt8) : List (List UInt8) := evA e z ++ evX e z ++ evR e z ++ evS e ++ evL e ++ evC e
theorem check_all {e : Ev} {v : Int} (h : checkV e v = 0) : 1 ≤ e.seq ∧ e.seq ≤ v ∧ Tt.serV e.days = 0 ∧ Tt.serDays e.days ≠ [] ∧ 0 ≤ e.start ∧ e.start < 1440 ∧ 1 ≤ e.mins ∧ e.mins ≤ 1440 ∧ e.summ.size ≠ 0 ∧ Tt.labB e.summ.data.toList = true ∧ Tt.labB e.loc.data.toList = true := by
  unfold checkV at h
  split at h
  · cases h
  · split at h
    · contradiction
    · split at h
      · cases h
      · split at h
        · cases h
        · split at h
          · cases h
          · rename_i h1 h2 h3 h4 h5
            refine ⟨by omega, by omega, by simpa using h2, h3, by omega, by omega, by omega, by omega, ?_, ?_, ?_⟩
            · exact fun hz => h5 (.inl hz)
            · cases hl : Tt.labB e.summ.data.toList with
              | true => rfl
              | false => exact absurd (.inr (.inl hl)) h5
            · cases hl : Tt.labB e.loc.data.toList with
              | true => rfl
              | false => exact absurd (.inr (.inr hl)) h5
theorem lab_size {s : ByteArray} (h : Tt.labB s.data.toList = true) : s.size ≤ 64 := by
  unfold Tt.labB at h
  rw [Bool.and_eq_true, decide_eq_true_eq] at h
  rw [Lib.size_eq]; exact h.2
theorem head_days {s : Tt.Ser} (h : Tt.serV s = 0) : (∀ d ∈ s.ex, 0 ≤ d ∧ d ≤ 36524) ∧ (∀ d ∈ s.xt, 0 ≤ d ∧ d ≤ 36524) := by
  obtain ⟨hh, h2, h3⟩ := (Tt.serV_zero s).1 h
  have f0 := hh.f0; have l1 := hh.l1; constructor
  · intro d hd; have hr := Tt.reg_range ((Tt.listV_ok 12 (Tt.regB s) (by decide) s.ex none h2).1 d hd).1
    omega
  · intro d hd; have hk := ((Tt.listV_ok 11 (Tt.extB s) (by decide) s.xt none h3).1 d hd).1
    rcases Int.lt_or_le d s.first with hc | hc
    · rw [Tt.extB_out s d (.inl hc)] at hk; cases hk
    · rcases Int.lt_or_le s.last d with hc2 | hc2
      · rw [Tt.extB_out s d (.inr hc2)] at hk; cases hk
      · omega
theorem rule_len {s : Tt.Ser} (h : Tt.Head s) : (Tt.ruleL s).length ≤ 80 := by
  have h1 := Tt.byL_len s.wd 7 (Nat.le_refl _)
  have h2 : (Lib.decDigits s.every.toNat).length = 1 := by rw [Lib.decDigits_one (by have := h.e0; have := h.e1; omega)]; rfl
  unfold Tt.ruleL
  simp only [List.length_append, h2, Tt.dateL_len, List.length_cons, List.length_nil]
  omega
theorem loc_empty {s : ByteArray} (h : false = !s.toList.isEmpty) : s = ⟨#[]⟩ := by
  rw [Lib.toList_data] at h
  refine ByteArray.ext (Array.toList_inj.mp ?_)
  cases hs : s.data.toList with
  | nil => rfl
  | cons a r => rw [hs] at h; cases h
theorem loc_some {s : ByteArray} (h : true = !s.toList.isEmpty) : s ≠ ⟨#[]⟩ := by
  rintro rfl
  rw [Lib.toList_data] at h
  cases h
theorem one_int {w : World} (x : Int) : Ints (w.heap.size + 1) (w.alloc (.cells #[.int .i64 x] 3)) (some ⟨w.heap.size, 0, none⟩) [x] := by
  intro j y hj; rcases j with _ | j
  · simp at hj
    subst hj; exact ⟨_, rfl, Nat.lt_succ_self _, cell_one w _ _ 0 _ rfl⟩
  · simp at hj

set_option maxRecDepth 100000 in
set_option maxHeartbeats 16000000 in
theorem event173 (b B : Nat) (xs : List ByteArray) (e : Ev) (ver : Int) (pa pb : Option Addr) (ca cb : Nat) (z : ByteArray) (w : World) (hbuf : Buf b B xs w) (hB : B ≤ w.heap.size) (hb6 : 6 < b) (hxs : xs.length ≤ 100000) (hck : checkV e ver = 0) (hver : ver ≤ 64) (hu : e.uid.size ≤ 1000) (hz : z.size ≤ 1000)
    (hI : Ints b w pa e.days.ex) (hI' : Ints b w pb e.days.xt) (hL : Lens w) (hP : Pow w) :
    Calls Tryz.prog 173 #[.pointer (some ⟨b, 0, none⟩), evVal e (.slice pa e.days.ex.length ca) (.slice pb e.days.xt.length cb), .string z] w fun x w' => x = .returned (.tuple #[]) ∧ Buf b B (xs ++ (evLines e z.data.toList).map str) w' ∧ But b B w w' ∧ Keep9 b w w' := by
  obtain ⟨q0, q1, hsv, -, st0, st1, mi0, mi1, -, hls, hll⟩ := check_all hck
  have hss := lab_size hls; have hsl := lab_size hll; have HH := Lib.hid ((Tt.serV_zero e.days).1 hsv).1
  have HSV := Lib.hid hsv; have hf0 := HH.out.f0; have hf1 := HH.out.f1; have hxn : e.days.ex.length ≤ 140 ∧ e.days.xt.length ≤ 140 := by have := HH.out.n; omega
  have HDD := Lib.hid (head_days hsv)
  have HI := Lib.hid hI; have HI' := Lib.hid hI'; have HL := Lib.hid hL; have HP := Lib.hid hP; have hbB : b ≤ B := Nat.le_of_lt hbuf.lt
  have hb3 : 3 < b := by omega
  have hGb : w.heap.size ≠ b := by have := hbuf.lt; omega
  have HF0 := Lib.hid (hbuf.kept (below_box w (.cells (evCells e (.slice pa e.days.ex.length ca) (.slice pb e.days.xt.length cb)) 82)))
  have HG0 := Lib.hid (Blk.new w (evCells e (.slice pa e.days.ex.length ca) (.slice pb e.days.xt.length cb)) 82)
  have HK0 := Lib.hid (But.of_below (b := b) ((below_box w (.cells (evCells e (.slice pa e.days.ex.length ca) (.slice pb e.days.xt.length cb)) 82)).mono hB))
  have HQ0 := Lib.hid (Keep9.made (b := b) (below_box w (.cells (evCells e (.slice pa e.days.ex.length ca) (.slice pb e.days.xt.length cb)) 82)))
  obtain ⟨G, hG⟩ : ∃ G, G = w.heap.size := ⟨_, rfl⟩
  obtain ⟨w0, hw0⟩ : ∃ w0, w0 = w.alloc (.cells (evCells e (.slice pa e.days.ex.length ca) (.slice pb e.days.xt.length cb)) 82) := ⟨_, rfl⟩
  rw [← hw0] at HF0 HG0 HK0 HQ0
  rw [← hG] at HG0 hGb
  obtain ⟨y0, hy0⟩ : ∃ y0, y0 = xs := ⟨_, rfl⟩
  have HY0 := Lib.hid hy0; have HN0 := Lib.hid (show y0.length ≤ xs.length + 0 from by rw [hy0]; omega)
  rw [← hy0] at HF0
  have HC : Hid (Calls Tryz.prog 250 #[serVal e.days (.slice pa e.days.ex.length ca) (.slice pb e.days.xt.length cb)] w0 fun x w' => x = .returned (.tuple #[.string ⟨(Tt.ruleL e.days).toArray⟩, .int .i64 0]) ∧ Below w0.heap.size w0 w') := Lib.hid (format250 e.days b w0 hsv pa pb ca cb (Nat.le_trans hbB (Nat.le_trans hB HK0.out.size)) (hI.below (HK0.out.below (Nat.le_refl b) hbB)) (hI'.below (HK0.out.below (Nat.le_refl b) hbB)) (hL.below hb3 (HK0.out.below (Nat.le_refl b) hbB)) (hP.below hb6 (HK0.out.below (Nat.le_refl b) hbB)) (Nat.lt_of_lt_of_le hb6 (Nat.le_trans hbB (Nat.le_trans hB HK0.out.size))))
  have HIX : Hid (∀ W : World, But b B w W → Ints b W pa e.days.ex) := Lib.hid (fun W h => hI.below (h.below (Nat.le_refl b) hbB))
  have HIR : Hid (∀ W : World, But b B w W → Ints b W pb e.days.xt) := Lib.hid (fun W h => hI'.below (h.below (Nat.le_refl b) hbB))
  obtain ⟨ex, hex⟩ : ∃ n, n = e.days.ex.length := ⟨_, rfl⟩
  obtain ⟨xt, hxt⟩ : ∃ n, n = e.days.xt.length := ⟨_, rfl⟩
  have HEX := Lib.hid hex; have HXT := Lib.hid hxt; unfold serVal at HC
  unfold evVal
  unfold evCells at hw0 ⊢
  rw [← hex, ← hxt] at HG0 HC hw0 hxn ⊢
  clear hbuf hck hsv hls hll hI hI' hL hP hy0 hex hxt HI HI'; go_enter Tryz.func173, Tryz.ntmps173
  go_upto_region 1 with (fail)
  rw [← hw0, ← hG]; clear hw0 hG; obtain ⟨c0, c1, c2, c3, c4, c5, c6, c7, c8, c9, c10, c11, c12⟩ := EvBox.c (e := e) (v := .slice pa ex ca) (v' := .slice pb xt cb) HG0.out
  simp only [Nat.zero_add] at c0 c1 c2 c3 c4 c5 c6 c7 c8 c9 c10 c11 c12
  go_wp2_with fail
  refine (HC.out).mono ?_
  rintro x w1 ⟨rfl, hb⟩; obtain ⟨t1, ht⟩ : ∃ t, t = (⟨(Tt.ruleL e.days).toArray⟩ : ByteArray) := ⟨_, rfl⟩
  have zt1 : t1.size ≤ 80 := by rw [ht, size_mk]; exact rule_len HH.out
  rw [← ht]; have HT1 := Lib.hid (show t1.data.toList = Tt.ruleL e.days from by rw [ht])
  clear ht; clear c0 c1 c2 c3 c4 c5 c6 c7 c8 c9 c10 c11 c12; have HF1 := Lib.hid (HF0.out.kept hb)
  have HG1 := Lib.hid (HG0.out.below hb HG0.out.lt)
  have HK1 := Lib.hid (HK0.out.trans (But.of_below (hb.mono (Nat.le_trans hB HK0.out.size))))
  have HQ1 := Lib.hid (HQ0.out.trans (Keep9.made hb))
  clear hb HF0 HG0 HK0 HQ0; clear HC; go_wp2_with fail
  refine (put_parts2 b B w1.heap.size y0 [⟨#[66, 69, 71, 73, 78, 58, 86, 69, 86, 69, 78, 84]⟩] w1 rfl HF1.out (Nat.le_trans hB HK1.out.size) (by simp) (by simp only [List.map_cons, List.map_nil, List.flatten_cons, List.flatten_nil, List.append_nil, List.length_cons, List.length_nil]; omega) (by have := HN0.out; omega)).mono ?_
  rintro x w2 ⟨rfl, hf, hk, hq⟩; obtain ⟨y2, hy⟩ : ∃ y, y = y0 ++ [str ([66, 69, 71, 73, 78, 58, 86, 69, 86, 69, 78, 84])] := ⟨_, rfl⟩
  have HF2 := Lib.hid (show Buf b B y2 w2 from by rw [hy]; simpa only [List.map_cons, List.map_nil, List.flatten_cons, List.flatten_nil, List.append_nil, List.append_assoc, List.cons_append, List.nil_append] using hf)
  have HY2 := Lib.hid hy; have HN2 := Lib.hid (show y2.length ≤ xs.length + 1 from by rw [hy, List.length_append]; have := HN0.out; simp only [List.length_cons, List.length_nil]; omega)
  have HK2 := Lib.hid (HK1.out.trans hk)
  have HG2 := Lib.hid (hq G _ 82 (by decide) hGb HG1.out)
  have HQ2 := Lib.hid (HQ1.out.trans hq)
  clear hf hy hk hq HF1 HG1 HK1 HQ1; obtain ⟨c0, c1, c2, c3, c4, c5, c6, c7, c8, c9, c10, c11, c12⟩ := EvBox.c (e := e) (v := .slice pa ex ca) (v' := .slice pb xt cb) HG2.out
  simp only [Nat.zero_add] at c0 c1 c2 c3 c4 c5 c6 c7 c8 c9 c10 c11 c12
  go_wp2_with fail
  refine (put_parts2 b B w2.heap.size y2 [⟨#[85, 73, 68, 58]⟩, e.uid] w2 rfl HF2.out (Nat.le_trans hB HK2.out.size) (by simp) (by simp only [List.map_cons, List.map_nil, List.flatten_cons, List.flatten_nil, List.append_nil, List.length_append, List.length_cons, List.length_nil, ← Lib.size_eq]; omega) (by have := HN2.out; omega)).mono ?_
  rintro x w3 ⟨rfl, hf, hk, hq⟩; obtain ⟨y3, hy⟩ : ∃ y, y = y2 ++ [str ([85, 73, 68, 58] ++ e.uid.data.toList)] := ⟨_, rfl⟩
  have HF3 := Lib.hid (show Buf b B y3 w3 from by rw [hy]; simpa only [List.map_cons, List.map_nil, List.flatten_cons, List.flatten_nil, List.append_nil, List.append_assoc, List.cons_append, List.nil_append] using hf)
  have HY3 := Lib.hid hy; have HN3 := Lib.hid (show y3.length ≤ xs.length + 2 from by rw [hy, List.length_append]; have := HN2.out; simp only [List.length_cons, List.length_nil]; omega)
  have HK3 := Lib.hid (HK2.out.trans hk)
  have HG3 := Lib.hid (hq G _ 82 (by decide) hGb HG2.out)
  have HQ3 := Lib.hid (HQ2.out.trans hq)
  clear hf hy hk hq HF2 HG2 HK2 HQ2; clear c0 c1 c2 c3 c4 c5 c6 c7 c8 c9 c10 c11 c12; obtain ⟨c0, c1, c2, c3, c4, c5, c6, c7, c8, c9, c10, c11, c12⟩ := EvBox.c (e := e) (v := .slice pa ex ca) (v' := .slice pb xt cb) HG3.out
  simp only [Nat.zero_add] at c0 c1 c2 c3 c4 c5 c6 c7 c8 c9 c10 c11 c12
  go_wp2_with fail
  refine (itoa136 e.seq w3 (HP.out.below hb6 (HK3.out.below (Nat.le_refl b) hbB)) (by omega) (by omega)).mono ?_
  rintro x w4 ⟨rfl, hb⟩; obtain ⟨t4, ht⟩ : ∃ t, t = (⟨(Lib.decDigits e.seq.toNat).toArray⟩ : ByteArray) := ⟨_, rfl⟩
  have zt4 : t4.size ≤ 5 := by rw [ht, size_mk]; exact Tt.dec_len 4 _ (by omega)
  rw [← ht]; have HT4 := Lib.hid (show t4.data.toList = Lib.decDigits e.seq.toNat from by rw [ht])
  clear ht; clear c0 c1 c2 c3 c4 c5 c6 c7 c8 c9 c10 c11 c12; have HF4 := Lib.hid (HF3.out.kept hb)
  have HG4 := Lib.hid (HG3.out.below hb HG3.out.lt)
  have HK4 := Lib.hid (HK3.out.trans (But.of_below (hb.mono (Nat.le_trans hB HK3.out.size))))
  have HQ4 := Lib.hid (HQ3.out.trans (Keep9.made hb))
  clear hb HF3 HG3 HK3 HQ3; go_wp2_with fail
  refine (put_parts2 b B w4.heap.size y3 [⟨#[83, 69, 81, 85, 69, 78, 67, 69, 58]⟩, t4] w4 rfl HF4.out (Nat.le_trans hB HK4.out.size) (by simp) (by simp only [List.map_cons, List.map_nil, List.flatten_cons, List.flatten_nil, List.append_nil, List.length_append, List.length_cons, List.length_nil, ← Lib.size_eq]; omega) (by have := HN3.out; omega)).mono ?_
  rintro x w5 ⟨rfl, hf, hk, hq⟩; obtain ⟨y5, hy⟩ : ∃ y, y = y3 ++ [str ([83, 69, 81, 85, 69, 78, 67, 69, 58] ++ Lib.decDigits e.seq.toNat)] := ⟨_, rfl⟩
  have HF5 := Lib.hid (show Buf b B y5 w5 from by rw [hy]; simpa only [List.map_cons, List.map_nil, List.flatten_cons, List.flatten_nil, List.append_nil, List.append_assoc, List.cons_append, List.nil_append, HT4.out] using hf)
  have HY5 := Lib.hid hy; have HN5 := Lib.hid (show y5.length ≤ xs.length + 3 from by rw [hy, List.length_append]; have := HN3.out; simp only [List.length_cons, List.length_nil]; omega)
  have HK5 := Lib.hid (HK4.out.trans hk)
  have HG5 := Lib.hid (hq G _ 82 (by decide) hGb HG4.out)
  have HQ5 := Lib.hid (HQ4.out.trans hq)
  clear hf hy hk hq HF4 HG4 HK4 HQ4; obtain ⟨c0, c1, c2, c3, c4, c5, c6, c7, c8, c9, c10, c11, c12⟩ := EvBox.c (e := e) (v := .slice pa ex ca) (v' := .slice pb xt cb) HG5.out
  simp only [Nat.zero_add] at c0 c1 c2 c3 c4 c5 c6 c7 c8 c9 c10 c11 c12
  have hGlt := HG5.out.lt; go_wp2_with fail
  clear hGlt; obtain ⟨g5, hg5⟩ : ∃ g, g = w5.heap.size := ⟨_, rfl⟩
  obtain ⟨wA, hwA⟩ : ∃ W, W = w5.alloc (.cells #[.int .i64 e.days.first] 3) := ⟨_, rfl⟩
  have HON := Lib.hid (show Ints (g5 + 1) wA (some ⟨g5, 0, none⟩) [e.days.first] ∧ g5 + 1 ≤ wA.heap.size from by rw [hwA, hg5]; exact ⟨one_int _, by simp⟩)
  have hb : Below w5.heap.size w5 wA := by rw [hwA]; exact below_box w5 _
  rw [← hwA, ← hg5]; clear hwA hg5; clear c0 c1 c2 c3 c4 c5 c6 c7 c8 c9 c10 c11 c12; have HFA := Lib.hid (HF5.out.kept hb)
  have HGA := Lib.hid (HG5.out.below hb HG5.out.lt)
  have HKA := Lib.hid (HK5.out.trans (But.of_below (hb.mono (Nat.le_trans hB HK5.out.size))))
  have HQA := Lib.hid (HQ5.out.trans (Keep9.made hb))
  clear hb HF5 HG5 HK5 HQ5; refine (times251 [e.days.first] (some ⟨g5, 0, none⟩) 1 e.start (g5 + 1) wA HON.out.2 HON.out.1 (by simp) (fun d hd => by rw [List.mem_singleton.1 hd]; exact ⟨hf0, hf1⟩) st0 st1 (HL.out.below hb3 (HKA.out.below (Nat.le_refl b) hbB)) (HP.out.below hb6 (HKA.out.below (Nat.le_refl b) hbB)) (Nat.lt_of_lt_of_le hb6 (Nat.le_trans hbB (Nat.le_trans hB HKA.out.size)))).mono ?_
  rintro x w6 ⟨rfl, hb⟩; rw [show Tt.stampsL e.start [e.days.first] = Tt.stampL e.days.first e.start from rfl]
  obtain ⟨t6, ht⟩ : ∃ t, t = (⟨(Tt.stampL e.days.first e.start).toArray⟩ : ByteArray) := ⟨_, rfl⟩
  have zt6 : t6.size ≤ 15 := by rw [ht, size_mk]; exact Nat.le_of_eq (Tt.stampL_len _ _)
  rw [← ht]; have HT6 := Lib.hid (show t6.data.toList = Tt.stampL e.days.first e.start from by rw [ht])
  clear ht; have HF6 := Lib.hid (HFA.out.kept hb)
  have HG6 := Lib.hid (HGA.out.below hb HGA.out.lt)
  have HK6 := Lib.hid (HKA.out.trans (But.of_below (hb.mono (Nat.le_trans hB HKA.out.size))))
  have HQ6 := Lib.hid (HQA.out.trans (Keep9.made hb))
  clear hb HFA HGA HKA HQA; clear HON; go_wp2_with fail
  refine (put_parts2 b B w6.heap.size y5 [⟨#[68, 84, 83, 84, 65, 82, 84, 59, 84, 90, 73, 68, 61]⟩, z, ⟨#[58]⟩, t6] w6 rfl HF6.out (Nat.le_trans hB HK6.out.size) (by simp) (by simp only [List.map_cons, List.map_nil, List.flatten_cons, List.flatten_nil, List.append_nil, List.length_append, List.length_cons, List.length_nil, ← Lib.size_eq]; omega) (by have := HN5.out; omega)).mono ?_
  rintro x w7 ⟨rfl, hf, hk, hq⟩; obtain ⟨y7, hy⟩ : ∃ y, y = y5 ++ [str ([68, 84, 83, 84, 65, 82, 84, 59, 84, 90, 73, 68, 61] ++ z.data.toList ++ [58] ++ Tt.stampL e.days.first e.start)] := ⟨_, rfl⟩
  have HF7 := Lib.hid (show Buf b B y7 w7 from by rw [hy]; simpa only [List.map_cons, List.map_nil, List.flatten_cons, List.flatten_nil, List.append_nil, List.append_assoc, List.cons_append, List.nil_append, HT6.out] using hf)
  have HY7 := Lib.hid hy; have HN7 := Lib.hid (show y7.length ≤ xs.length + 4 from by rw [hy, List.length_append]; have := HN5.out; simp only [List.length_cons, List.length_nil]; omega)
  have HK7 := Lib.hid (HK6.out.trans hk)
  have HG7 := Lib.hid (hq G _ 82 (by decide) hGb HG6.out)
  have HQ7 := Lib.hid (HQ6.out.trans hq)
  clear hf hy hk hq HF6 HG6 HK6 HQ6; obtain ⟨c0, c1, c2, c3, c4, c5, c6, c7, c8, c9, c10, c11, c12⟩ := EvBox.c (e := e) (v := .slice pa ex ca) (v' := .slice pb xt cb) HG7.out
  simp only [Nat.zero_add] at c0 c1 c2 c3 c4 c5 c6 c7 c8 c9 c10 c11 c12
  go_wp2_with fail
  refine (itoa136 e.mins w7 (HP.out.below hb6 (HK7.out.below (Nat.le_refl b) hbB)) (by omega) (by omega)).mono ?_
  rintro x w8 ⟨rfl, hb⟩; obtain ⟨t8, ht⟩ : ∃ t, t = (⟨(Lib.decDigits e.mins.toNat).toArray⟩ : ByteArray) := ⟨_, rfl⟩
  have zt8 : t8.size ≤ 5 := by rw [ht, size_mk]; exact Tt.dec_len 4 _ (by omega)
  rw [← ht]; have HT8 := Lib.hid (show t8.data.toList = Lib.decDigits e.mins.toNat from by rw [ht])
  clear ht; clear c0 c1 c2 c3 c4 c5 c6 c7 c8 c9 c10 c11 c12; have HF8 := Lib.hid (HF7.out.kept hb)
  have HG8 := Lib.hid (HG7.out.below hb HG7.out.lt)
  have HK8 := Lib.hid (HK7.out.trans (But.of_below (hb.mono (Nat.le_trans hB HK7.out.size))))
  have HQ8 := Lib.hid (HQ7.out.trans (Keep9.made hb))
  clear hb HF7 HG7 HK7 HQ7; go_wp2_with fail
  refine (put_parts2 b B w8.heap.size y7 [⟨#[68, 85, 82, 65, 84, 73, 79, 78, 58, 80, 84]⟩, t8, ⟨#[77]⟩] w8 rfl HF8.out (Nat.le_trans hB HK8.out.size) (by simp) (by simp only [List.map_cons, List.map_nil, List.flatten_cons, List.flatten_nil, List.append_nil, List.length_append, List.length_cons, List.length_nil, ← Lib.size_eq]; omega) (by have := HN7.out; omega)).mono ?_
  rintro x w9 ⟨rfl, hf, hk, hq⟩; obtain ⟨y9, hy⟩ : ∃ y, y = y7 ++ [str ([68, 85, 82, 65, 84, 73, 79, 78, 58, 80, 84] ++ Lib.decDigits e.mins.toNat ++ [77])] := ⟨_, rfl⟩
  have HF9 := Lib.hid (show Buf b B y9 w9 from by rw [hy]; simpa only [List.map_cons, List.map_nil, List.flatten_cons, List.flatten_nil, List.append_nil, List.append_assoc, List.cons_append, List.nil_append, HT8.out] using hf)
  have HY9 := Lib.hid hy; have HN9 := Lib.hid (show y9.length ≤ xs.length + 5 from by rw [hy, List.length_append]; have := HN7.out; simp only [List.length_cons, List.length_nil]; omega)
  have HK9 := Lib.hid (HK8.out.trans hk)
  have HG9 := Lib.hid (hq G _ 82 (by decide) hGb HG8.out)
  have HQ9 := Lib.hid (HQ8.out.trans hq)
  clear hf hy hk hq HF8 HG8 HK8 HQ8; go_wp2_with fail
  refine (put_parts2 b B w9.heap.size y9 [⟨#[82, 82, 85, 76, 69, 58]⟩, t1] w9 rfl HF9.out (Nat.le_trans hB HK9.out.size) (by simp) (by simp only [List.map_cons, List.map_nil, List.flatten_cons, List.flatten_nil, List.append_nil, List.length_append, List.length_cons, List.length_nil, ← Lib.size_eq]; omega) (by have := HN9.out; omega)).mono ?_
  rintro x w10 ⟨rfl, hf, hk, hq⟩; obtain ⟨y10, hy⟩ : ∃ y, y = y9 ++ [str ([82, 82, 85, 76, 69, 58] ++ Tt.ruleL e.days)] := ⟨_, rfl⟩
  have HF10 := Lib.hid (show Buf b B y10 w10 from by rw [hy]; simpa only [List.map_cons, List.map_nil, List.flatten_cons, List.flatten_nil, List.append_nil, List.append_assoc, List.cons_append, List.nil_append, HT1.out] using hf)
  have HY10 := Lib.hid hy; have HN10 := Lib.hid (show y10.length ≤ xs.length + 6 from by rw [hy, List.length_append]; have := HN9.out; simp only [List.length_cons, List.length_nil]; omega)
  have HK10 := Lib.hid (HK9.out.trans hk)
  have HG10 := Lib.hid (hq G _ 82 (by decide) hGb HG9.out)
  have HQ10 := Lib.hid (HQ9.out.trans hq)
  clear hf hy hk hq HF9 HG9 HK9 HQ9; have HYA := Lib.hid (show y10 = xs ++ (evA e z.data.toList).map str from by rw [HY10.out, HY9.out, HY7.out, HY5.out, HY3.out, HY2.out, HY0.out]; simp [evA])
  clear HY2 HY3 HY5 HY7 HY9 HY10 HY0; obtain ⟨c0, c1, c2, c3, c4, c5, c6, c7, c8, c9, c10, c11, c12⟩ := EvBox.c (e := e) (v := .slice pa ex ca) (v' := .slice pb xt cb) HG10.out
  simp only [Nat.zero_add] at c0 c1 c2 c3 c4 c5 c6 c7 c8 c9 c10 c11 c12
  go_upto_if 53 with (fail)
  go_cut [54] (fun _ wx => ∃ y : List ByteArray, y.length ≤ xs.length + 7 ∧ Hid (y = xs ++ (evA e z.data.toList ++ evX e z.data.toList).map str) ∧ Hid (Buf b B y wx) ∧ Hid (Blk G (evCells e (.slice pa ex ca) (.slice pb xt cb)) 82 wx) ∧ Hid (But b B w wx) ∧ Hid (Keep9 b w wx))
  case first =>
    by_cases hopt : e.days.ex = []
    · have hx0 : ¬ (0 : Int) < ex := by have h1 := HEX.out; rw [hopt, List.length_nil] at h1; omega
      skip
      go_wp2_with fail
      go_meet
      exact ⟨y10, by have := HN10.out; omega, Lib.hid (by rw [HYA.out]; unfold evX; rw [if_pos hopt, List.append_nil]), HF10, HG10, HK10, HQ10⟩
    · have hx0 : (0 : Int) < ex := by have h1 := HEX.out; have h2 : e.days.ex.length ≠ 0 := fun h => hopt (List.eq_nil_of_length_eq_zero h); omega
      have HTX : Hid (Calls Tryz.prog 251 #[.slice pa ex ca, .int .i64 e.start] w10 fun x w' => x = .returned (.string ⟨(Tt.stampsL e.start e.days.ex).toArray⟩) ∧ Below w10.heap.size w10 w') := Lib.hid (by have h := times251 e.days.ex pa ca e.start b w10 (Nat.le_trans hbB (Nat.le_trans hB HK10.out.size)) (HIX.out w10 HK10.out) (by have := HEX.out; omega) HDD.out.1 st0 st1 (HL.out.below hb3 (HK10.out.below (Nat.le_refl b) hbB)) (HP.out.below hb6 (HK10.out.below (Nat.le_refl b) hbB)) (Nat.lt_of_lt_of_le hb6 (Nat.le_trans hbB (Nat.le_trans hB HK10.out.size))); rw [← HEX.out] at h; exact h)
      go_wp2_with fail
      refine (HTX.out).mono ?_
      rintro x wx1 ⟨rfl, hb⟩; obtain ⟨tx1, ht⟩ : ∃ t, t = (⟨(Tt.stampsL e.start e.days.ex).toArray⟩ : ByteArray) := ⟨_, rfl⟩
      have ztx1 : tx1.size ≤ 16000 := by rw [ht, size_mk]; exact Nat.le_trans (Tt.stampsL_len _ _) (by have := HEX.out; omega)
      rw [← ht]; have HTx1 := Lib.hid (show tx1.data.toList = Tt.stampsL e.start e.days.ex from by rw [ht])
      clear ht; clear c0 c1 c2 c3 c4 c5 c6 c7 c8 c9 c10 c11 c12; have HFx1 := Lib.hid (HF10.out.kept hb)
      have HGx1 := Lib.hid (HG10.out.below hb HG10.out.lt)
      have HKx1 := Lib.hid (HK10.out.trans (But.of_below (hb.mono (Nat.le_trans hB HK10.out.size))))
      have HQx1 := Lib.hid (HQ10.out.trans (Keep9.made hb))
      clear hb HF10 HG10 HK10 HQ10; clear HTX; go_wp2_with fail
      refine (put_parts2 b B wx1.heap.size y10 [⟨#[69, 88, 68, 65, 84, 69, 59, 84, 90, 73, 68, 61]⟩, z, ⟨#[58]⟩, tx1] wx1 rfl HFx1.out (Nat.le_trans hB HKx1.out.size) (by simp) (by simp only [List.map_cons, List.map_nil, List.flatten_cons, List.flatten_nil, List.append_nil, List.length_append, List.length_cons, List.length_nil, ← Lib.size_eq]; omega) (by have := HN10.out; omega)).mono ?_
      rintro x wx2 ⟨rfl, hf, hk, hq⟩; obtain ⟨yx2, hy⟩ : ∃ y, y = y10 ++ [str ([69, 88, 68, 65, 84, 69, 59, 84, 90, 73, 68, 61] ++ z.data.toList ++ [58] ++ Tt.stampsL e.start e.days.ex)] := ⟨_, rfl⟩
      have HFx2 := Lib.hid (show Buf b B yx2 wx2 from by rw [hy]; simpa only [List.map_cons, List.map_nil, List.flatten_cons, List.flatten_nil, List.append_nil, List.append_assoc, List.cons_append, List.nil_append, HTx1.out] using hf)
      have HYx2 := Lib.hid hy; have HNx2 := Lib.hid (show yx2.length ≤ xs.length + 7 from by rw [hy, List.length_append]; have := HN10.out; simp only [List.length_cons, List.length_nil]; omega)
      have HKx2 := Lib.hid (HKx1.out.trans hk)
      have HGx2 := Lib.hid (hq G _ 82 (by decide) hGb HGx1.out)
      have HQx2 := Lib.hid (HQx1.out.trans hq)
      clear hf hy hk hq HFx1 HGx1 HKx1 HQx1; go_wp2_with fail
      go_meet
      exact ⟨yx2, by have := HNx2.out; omega, Lib.hid (by rw [HYx2.out, HYA.out]; unfold evX; rw [if_neg hopt]; simp only [List.map_append, List.map_cons, List.map_nil, List.append_assoc]), HFx2, HGx2, HKx2, HQx2⟩
  case rest =>
    clear HF10 HG10 HK10 HQ10 HYA HN10 c0 c1 c2 c3 c4 c5 c6 c7 c8 c9 c10 c11 c12; obtain ⟨ycx, hnc, HYA, HFc, HGc, HKc, HQc⟩ := hcut; have HNcx := Lib.hid hnc; clear hnc; obtain ⟨c0, c1, c2, c3, c4, c5, c6, c7, c8, c9, c10, c11, c12⟩ := EvBox.c (e := e) (v := .slice pa ex ca) (v' := .slice pb xt cb) HGc.out
    simp only [Nat.zero_add] at c0 c1 c2 c3 c4 c5 c6 c7 c8 c9 c10 c11 c12
    go_upto_if 68 with (fail)
    go_cut [69] (fun _ wx => ∃ y : List ByteArray, y.length ≤ xs.length + 8 ∧ Hid (y = xs ++ (evA e z.data.toList ++ evX e z.data.toList ++ evR e z.data.toList).map str) ∧ Hid (Buf b B y wx) ∧ Hid (Blk G (evCells e (.slice pa ex ca) (.slice pb xt cb)) 82 wx) ∧ Hid (But b B w wx) ∧ Hid (Keep9 b w wx))
    case first =>
      by_cases hopt : e.days.xt = []
      · have hx0 : ¬ (0 : Int) < xt := by have h1 := HXT.out; rw [hopt, List.length_nil] at h1; omega
        go_wp2_with fail
        go_meet
        exact ⟨ycx, by have := HNcx.out; omega, Lib.hid (by rw [HYA.out]; unfold evR; rw [if_pos hopt, List.append_nil]), HFc, HGc, HKc, HQc⟩
      · have hx0 : (0 : Int) < xt := by have h1 := HXT.out; have h2 : e.days.xt.length ≠ 0 := fun h => hopt (List.eq_nil_of_length_eq_zero h); omega
        have HTX : Hid (Calls Tryz.prog 251 #[.slice pb xt cb, .int .i64 e.start] wc fun x w' => x = .returned (.string ⟨(Tt.stampsL e.start e.days.xt).toArray⟩) ∧ Below wc.heap.size wc w') := Lib.hid (by have h := times251 e.days.xt pb cb e.start b wc (Nat.le_trans hbB (Nat.le_trans hB HKc.out.size)) (HIR.out wc HKc.out) (by have := HXT.out; omega) HDD.out.2 st0 st1 (HL.out.below hb3 (HKc.out.below (Nat.le_refl b) hbB)) (HP.out.below hb6 (HKc.out.below (Nat.le_refl b) hbB)) (Nat.lt_of_lt_of_le hb6 (Nat.le_trans hbB (Nat.le_trans hB HKc.out.size))); rw [← HXT.out] at h; exact h)
        go_wp2_with fail
        refine (HTX.out).mono ?_
        rintro x wq1 ⟨rfl, hb⟩; obtain ⟨tq1, ht⟩ : ∃ t, t = (⟨(Tt.stampsL e.start e.days.xt).toArray⟩ : ByteArray) := ⟨_, rfl⟩
        have ztq1 : tq1.size ≤ 16000 := by rw [ht, size_mk]; exact Nat.le_trans (Tt.stampsL_len _ _) (by have := HXT.out; omega)
        rw [← ht]; have HTq1 := Lib.hid (show tq1.data.toList = Tt.stampsL e.start e.days.xt from by rw [ht])
        clear ht; clear c0 c1 c2 c3 c4 c5 c6 c7 c8 c9 c10 c11 c12; have HFq1 := Lib.hid (HFc.out.kept hb)
        have HGq1 := Lib.hid (HGc.out.below hb HGc.out.lt)
        have HKq1 := Lib.hid (HKc.out.trans (But.of_below (hb.mono (Nat.le_trans hB HKc.out.size))))
        have HQq1 := Lib.hid (HQc.out.trans (Keep9.made hb))
        clear hb HFc HGc HKc HQc; clear HTX; go_wp2_with fail
        refine (put_parts2 b B wq1.heap.size ycx [⟨#[82, 68, 65, 84, 69, 59, 84, 90, 73, 68, 61]⟩, z, ⟨#[58]⟩, tq1] wq1 rfl HFq1.out (Nat.le_trans hB HKq1.out.size) (by simp) (by simp only [List.map_cons, List.map_nil, List.flatten_cons, List.flatten_nil, List.append_nil, List.length_append, List.length_cons, List.length_nil, ← Lib.size_eq]; omega) (by have := HNcx.out; omega)).mono ?_
        rintro x wq2 ⟨rfl, hf, hk, hq⟩; obtain ⟨yq2, hy⟩ : ∃ y, y = ycx ++ [str ([82, 68, 65, 84, 69, 59, 84, 90, 73, 68, 61] ++ z.data.toList ++ [58] ++ Tt.stampsL e.start e.days.xt)] := ⟨_, rfl⟩
        have HFq2 := Lib.hid (show Buf b B yq2 wq2 from by rw [hy]; simpa only [List.map_cons, List.map_nil, List.flatten_cons, List.flatten_nil, List.append_nil, List.append_assoc, List.cons_append, List.nil_append, HTq1.out] using hf)
        have HYq2 := Lib.hid hy; have HNq2 := Lib.hid (show yq2.length ≤ xs.length + 8 from by rw [hy, List.length_append]; have := HNcx.out; simp only [List.length_cons, List.length_nil]; omega)
        have HKq2 := Lib.hid (HKq1.out.trans hk)
        have HGq2 := Lib.hid (hq G _ 82 (by decide) hGb HGq1.out)
        have HQq2 := Lib.hid (HQq1.out.trans hq)
        clear hf hy hk hq HFq1 HGq1 HKq1 HQq1; go_wp2_with fail
        go_meet
        exact ⟨yq2, by have := HNq2.out; omega, Lib.hid (by rw [HYq2.out, HYA.out]; unfold evR; rw [if_neg hopt]; simp only [List.map_append, List.map_cons, List.map_nil, List.append_assoc]), HFq2, HGq2, HKq2, HQq2⟩
    case rest =>
      clear HFc HGc HKc HQc HYA HNcx c0 c1 c2 c3 c4 c5 c6 c7 c8 c9 c10 c11 c12; obtain ⟨ycq, hnc, HYA, HFc, HGc, HKc, HQc⟩ := hcut; have HNcq := Lib.hid hnc; clear hnc; obtain ⟨c0, c1, c2, c3, c4, c5, c6, c7, c8, c9, c10, c11, c12⟩ := EvBox.c (e := e) (v := .slice pa ex ca) (v' := .slice pb xt cb) HGc.out
      simp only [Nat.zero_add] at c0 c1 c2 c3 c4 c5 c6 c7 c8 c9 c10 c11 c12
      go_wp2_with fail
      refine (escape_any e.summ wc (by omega)).mono ?_
      rintro x wrq1 ⟨rfl, hb⟩; obtain ⟨trq1, ht⟩ : ∃ t, t = (⟨(Tt.esc e.summ.data.toList).toArray⟩ : ByteArray) := ⟨_, rfl⟩
      have ztrq1 : trq1.size ≤ 128 := by rw [ht, size_mk]; exact Nat.le_trans (Tt.esc_length _) (by rw [← Lib.size_eq]; omega)
      rw [← ht]; have HTrq1 := Lib.hid (show trq1.data.toList = Tt.esc e.summ.data.toList from by rw [ht])
      clear ht; clear c0 c1 c2 c3 c4 c5 c6 c7 c8 c9 c10 c11 c12; have HFrq1 := Lib.hid (HFc.out.kept hb)
      have HGrq1 := Lib.hid (HGc.out.below hb HGc.out.lt)
      have HKrq1 := Lib.hid (HKc.out.trans (But.of_below (hb.mono (Nat.le_trans hB HKc.out.size))))
      have HQrq1 := Lib.hid (HQc.out.trans (Keep9.made hb))
      clear hb HFc HGc HKc HQc; go_wp2_with fail
      refine (put_parts2 b B wrq1.heap.size ycq [⟨#[83, 85, 77, 77, 65, 82, 89, 58]⟩, trq1] wrq1 rfl HFrq1.out (Nat.le_trans hB HKrq1.out.size) (by simp) (by simp only [List.map_cons, List.map_nil, List.flatten_cons, List.flatten_nil, List.append_nil, List.length_append, List.length_cons, List.length_nil, ← Lib.size_eq]; omega) (by have := HNcq.out; omega)).mono ?_
      rintro x wrq2 ⟨rfl, hf, hk, hq⟩; obtain ⟨yrq2, hy⟩ : ∃ y, y = ycq ++ [str ([83, 85, 77, 77, 65, 82, 89, 58] ++ Tt.esc e.summ.data.toList)] := ⟨_, rfl⟩
      have HFrq2 := Lib.hid (show Buf b B yrq2 wrq2 from by rw [hy]; simpa only [List.map_cons, List.map_nil, List.flatten_cons, List.flatten_nil, List.append_nil, List.append_assoc, List.cons_append, List.nil_append, HTrq1.out] using hf)
      have HYrq2 := Lib.hid hy; have HNrq2 := Lib.hid (show yrq2.length ≤ xs.length + 9 from by rw [hy, List.length_append]; have := HNcq.out; simp only [List.length_cons, List.length_nil]; omega)
      have HKrq2 := Lib.hid (HKrq1.out.trans hk)
      have HGrq2 := Lib.hid (hq G _ 82 (by decide) hGb HGrq1.out)
      have HQrq2 := Lib.hid (HQrq1.out.trans hq)
      clear hf hy hk hq HFrq1 HGrq1 HKrq1 HQrq1; have HYA := Lib.hid (show yrq2 = xs ++ (evA e z.data.toList ++ evX e z.data.toList ++ evR e z.data.toList ++ evS e).map str from by rw [HYrq2.out, HYA.out]; simp only [evS, List.map_append, List.map_cons, List.map_nil, List.append_assoc])
      obtain ⟨c0, c1, c2, c3, c4, c5, c6, c7, c8, c9, c10, c11, c12⟩ := EvBox.c (e := e) (v := .slice pa ex ca) (v' := .slice pb xt cb) HGrq2.out
      simp only [Nat.zero_add] at c0 c1 c2 c3 c4 c5 c6 c7 c8 c9 c10 c11 c12
      go_upto_if 87 with (fail)
      obtain ⟨bl, hbl⟩ : ∃ bl, bl = (!e.loc.toList.isEmpty) := ⟨_, rfl⟩
      rw [← hbl]; have HBL := Lib.hid hbl; clear hbl; go_cut [88] (fun _ wx => ∃ y : List ByteArray, y.length ≤ xs.length + 10 ∧ Hid (y = xs ++ (evA e z.data.toList ++ evX e z.data.toList ++ evR e z.data.toList ++ evS e ++ evL e).map str) ∧ Hid (Buf b B y wx) ∧ Hid (Blk G (evCells e (.slice pa ex ca) (.slice pb xt cb)) 82 wx) ∧ Hid (But b B w wx) ∧ Hid (Keep9 b w wx))
      case first =>
        cases bl
        · have HOPT := Lib.hid (loc_empty HBL.out)
          go_wp2_with fail
          go_meet
          exact ⟨yrq2, by have := HNrq2.out; omega, Lib.hid (by rw [HYA.out]; unfold evL; rw [if_pos HOPT.out, List.append_nil]), HFrq2, HGrq2, HKrq2, HQrq2⟩
        · have HOPT := Lib.hid (loc_some HBL.out)
          go_wp2_with fail
          refine (escape_any e.loc wrq2 (by omega)).mono ?_
          rintro x wl1 ⟨rfl, hb⟩; obtain ⟨tl1, ht⟩ : ∃ t, t = (⟨(Tt.esc e.loc.data.toList).toArray⟩ : ByteArray) := ⟨_, rfl⟩
          have ztl1 : tl1.size ≤ 128 := by rw [ht, size_mk]; exact Nat.le_trans (Tt.esc_length _) (by rw [← Lib.size_eq]; omega)
          rw [← ht]; have HTl1 := Lib.hid (show tl1.data.toList = Tt.esc e.loc.data.toList from by rw [ht])
          clear ht; clear c0 c1 c2 c3 c4 c5 c6 c7 c8 c9 c10 c11 c12; have HFl1 := Lib.hid (HFrq2.out.kept hb)
          have HGl1 := Lib.hid (HGrq2.out.below hb HGrq2.out.lt)
          have HKl1 := Lib.hid (HKrq2.out.trans (But.of_below (hb.mono (Nat.le_trans hB HKrq2.out.size))))
          have HQl1 := Lib.hid (HQrq2.out.trans (Keep9.made hb))
          clear hb HFrq2 HGrq2 HKrq2 HQrq2; go_wp2_with fail
          refine (put_parts2 b B wl1.heap.size yrq2 [⟨#[76, 79, 67, 65, 84, 73, 79, 78, 58]⟩, tl1] wl1 rfl HFl1.out (Nat.le_trans hB HKl1.out.size) (by simp) (by simp only [List.map_cons, List.map_nil, List.flatten_cons, List.flatten_nil, List.append_nil, List.length_append, List.length_cons, List.length_nil, ← Lib.size_eq]; omega) (by have := HNrq2.out; omega)).mono ?_
          rintro x wl2 ⟨rfl, hf, hk, hq⟩; obtain ⟨yl2, hy⟩ : ∃ y, y = yrq2 ++ [str ([76, 79, 67, 65, 84, 73, 79, 78, 58] ++ Tt.esc e.loc.data.toList)] := ⟨_, rfl⟩
          have HFl2 := Lib.hid (show Buf b B yl2 wl2 from by rw [hy]; simpa only [List.map_cons, List.map_nil, List.flatten_cons, List.flatten_nil, List.append_nil, List.append_assoc, List.cons_append, List.nil_append, HTl1.out] using hf)
          have HYl2 := Lib.hid hy; have HNl2 := Lib.hid (show yl2.length ≤ xs.length + 10 from by rw [hy, List.length_append]; have := HNrq2.out; simp only [List.length_cons, List.length_nil]; omega)
          have HKl2 := Lib.hid (HKl1.out.trans hk)
          have HGl2 := Lib.hid (hq G _ 82 (by decide) hGb HGl1.out)
          have HQl2 := Lib.hid (HQl1.out.trans hq)
          clear hf hy hk hq HFl1 HGl1 HKl1 HQl1; go_wp2_with fail
          go_meet
          exact ⟨yl2, by have := HNl2.out; omega, Lib.hid (by rw [HYl2.out, HYA.out]; unfold evL; rw [if_neg HOPT.out]; simp only [List.map_append, List.map_cons, List.map_nil, List.append_assoc]), HFl2, HGl2, HKl2, HQl2⟩
      case rest =>
        clear HFrq2 HGrq2 HKrq2 HQrq2 HYA HNrq2 c0 c1 c2 c3 c4 c5 c6 c7 c8 c9 c10 c11 c12; obtain ⟨ycl, hnc, HYA, HFc, HGc, HKc, HQc⟩ := hcut; have HNcl := Lib.hid hnc; clear hnc; obtain ⟨c0, c1, c2, c3, c4, c5, c6, c7, c8, c9, c10, c11, c12⟩ := EvBox.c (e := e) (v := .slice pa ex ca) (v' := .slice pb xt cb) HGc.out
        simp only [Nat.zero_add] at c0 c1 c2 c3 c4 c5 c6 c7 c8 c9 c10 c11 c12
        cases hcn : e.canc
        · rw [hcn] at c2
          go_wp2_with fail
          refine (put_parts2 b B wc.heap.size ycl [⟨#[83, 84, 65, 84, 85, 83, 58, 67, 79, 78, 70, 73, 82, 77, 69, 68]⟩] wc rfl HFc.out (Nat.le_trans hB HKc.out.size) (by simp) (by simp only [List.map_cons, List.map_nil, List.flatten_cons, List.flatten_nil, List.append_nil, List.length_cons, List.length_nil]; omega) (by have := HNcl.out; omega)).mono ?_
          rintro x wnf1 ⟨rfl, hf, hk, hq⟩; obtain ⟨ynf1, hy⟩ : ∃ y, y = ycl ++ [str ([83, 84, 65, 84, 85, 83, 58, 67, 79, 78, 70, 73, 82, 77, 69, 68])] := ⟨_, rfl⟩
          have HFnf1 := Lib.hid (show Buf b B ynf1 wnf1 from by rw [hy]; simpa only [List.map_cons, List.map_nil, List.flatten_cons, List.flatten_nil, List.append_nil, List.append_assoc, List.cons_append, List.nil_append] using hf)
          have HYnf1 := Lib.hid hy; have HNnf1 := Lib.hid (show ynf1.length ≤ xs.length + 11 from by rw [hy, List.length_append]; have := HNcl.out; simp only [List.length_cons, List.length_nil]; omega)
          have HKnf1 := Lib.hid (HKc.out.trans hk)
          have HGnf1 := Lib.hid (hq G _ 82 (by decide) hGb HGc.out)
          have HQnf1 := Lib.hid (HQc.out.trans hq)
          clear hf hy hk hq HFc HGc HKc HQc; clear c0 c1 c2 c3 c4 c5 c6 c7 c8 c9 c10 c11 c12; go_wp2_with fail
          refine (put_parts2 b B wnf1.heap.size ynf1 [⟨#[69, 78, 68, 58, 86, 69, 86, 69, 78, 84]⟩] wnf1 rfl HFnf1.out (Nat.le_trans hB HKnf1.out.size) (by simp) (by simp only [List.map_cons, List.map_nil, List.flatten_cons, List.flatten_nil, List.append_nil, List.length_cons, List.length_nil]; omega) (by have := HNnf1.out; omega)).mono ?_
          rintro x wnf2 ⟨rfl, hf, hk, hq⟩; obtain ⟨ynf2, hy⟩ : ∃ y, y = ynf1 ++ [str ([69, 78, 68, 58, 86, 69, 86, 69, 78, 84])] := ⟨_, rfl⟩
          have HFnf2 := Lib.hid (show Buf b B ynf2 wnf2 from by rw [hy]; simpa only [List.map_cons, List.map_nil, List.flatten_cons, List.flatten_nil, List.append_nil, List.append_assoc, List.cons_append, List.nil_append] using hf)
          have HYnf2 := Lib.hid hy; have HNnf2 := Lib.hid (show ynf2.length ≤ xs.length + 12 from by rw [hy, List.length_append]; have := HNnf1.out; simp only [List.length_cons, List.length_nil]; omega)
          have HKnf2 := Lib.hid (HKnf1.out.trans hk)
          have HGnf2 := Lib.hid (hq G _ 82 (by decide) hGb HGnf1.out)
          have HQnf2 := Lib.hid (HQnf1.out.trans hq)
          clear hf hy hk hq HFnf1 HGnf1 HKnf1 HQnf1; go_wp2_with fail
          go_end0
          have HFX := Lib.hid (show ynf2 = xs ++ (evLines e z.data.toList).map str from by rw [HYnf2.out, HYnf1.out, HYA.out]; unfold evLines evC; rw [hcn]; simp only [List.map_append, List.map_cons, List.map_nil, List.append_assoc, Bool.false_eq_true, if_false, List.cons_append, List.nil_append])
          exact ⟨rfl, by rw [← HFX.out]; exact HFnf2.out, HKnf2.out, HQnf2.out⟩
        · rw [hcn] at c2
          go_wp2_with fail
          refine (put_parts2 b B wc.heap.size ycl [⟨#[83, 84, 65, 84, 85, 83, 58, 67, 65, 78, 67, 69, 76, 76, 69, 68]⟩] wc rfl HFc.out (Nat.le_trans hB HKc.out.size) (by simp) (by simp only [List.map_cons, List.map_nil, List.flatten_cons, List.flatten_nil, List.append_nil, List.length_cons, List.length_nil]; omega) (by have := HNcl.out; omega)).mono ?_
          rintro x wnt1 ⟨rfl, hf, hk, hq⟩; obtain ⟨ynt1, hy⟩ : ∃ y, y = ycl ++ [str ([83, 84, 65, 84, 85, 83, 58, 67, 65, 78, 67, 69, 76, 76, 69, 68])] := ⟨_, rfl⟩
          have HFnt1 := Lib.hid (show Buf b B ynt1 wnt1 from by rw [hy]; simpa only [List.map_cons, List.map_nil, List.flatten_cons, List.flatten_nil, List.append_nil, List.append_assoc, List.cons_append, List.nil_append] using hf)
          have HYnt1 := Lib.hid hy; have HNnt1 := Lib.hid (show ynt1.length ≤ xs.length + 11 from by rw [hy, List.length_append]; have := HNcl.out; simp only [List.length_cons, List.length_nil]; omega)
          have HKnt1 := Lib.hid (HKc.out.trans hk)
          have HGnt1 := Lib.hid (hq G _ 82 (by decide) hGb HGc.out)
          have HQnt1 := Lib.hid (HQc.out.trans hq)
          clear hf hy hk hq HFc HGc HKc HQc; clear c0 c1 c2 c3 c4 c5 c6 c7 c8 c9 c10 c11 c12; go_wp2_with fail
          refine (put_parts2 b B wnt1.heap.size ynt1 [⟨#[69, 78, 68, 58, 86, 69, 86, 69, 78, 84]⟩] wnt1 rfl HFnt1.out (Nat.le_trans hB HKnt1.out.size) (by simp) (by simp only [List.map_cons, List.map_nil, List.flatten_cons, List.flatten_nil, List.append_nil, List.length_cons, List.length_nil]; omega) (by have := HNnt1.out; omega)).mono ?_
          rintro x wnt2 ⟨rfl, hf, hk, hq⟩; obtain ⟨ynt2, hy⟩ : ∃ y, y = ynt1 ++ [str ([69, 78, 68, 58, 86, 69, 86, 69, 78, 84])] := ⟨_, rfl⟩
          have HFnt2 := Lib.hid (show Buf b B ynt2 wnt2 from by rw [hy]; simpa only [List.map_cons, List.map_nil, List.flatten_cons, List.flatten_nil, List.append_nil, List.append_assoc, List.cons_append, List.nil_append] using hf)
          have HYnt2 := Lib.hid hy; have HNnt2 := Lib.hid (show ynt2.length ≤ xs.length + 12 from by rw [hy, List.length_append]; have := HNnt1.out; simp only [List.length_cons, List.length_nil]; omega)
          have HKnt2 := Lib.hid (HKnt1.out.trans hk)
          have HGnt2 := Lib.hid (hq G _ 82 (by decide) hGb HGnt1.out)
          have HQnt2 := Lib.hid (HQnt1.out.trans hq)
          clear hf hy hk hq HFnt1 HGnt1 HKnt1 HQnt1; go_wp2_with fail
          go_end0
          have HFX := Lib.hid (show ynt2 = xs ++ (evLines e z.data.toList).map str from by rw [HYnt2.out, HYnt1.out, HYA.out]; unfold evLines evC; rw [hcn]; simp only [List.map_append, List.map_cons, List.map_nil, List.append_assoc, if_true, List.cons_append, List.nil_append])
          exact ⟨rfl, by rw [← HFX.out]; exact HFnt2.out, HKnt2.out, HQnt2.out⟩
end Go.Proofs.YtageielcdebjlaaGreatDoor
