/- The lines of an event, and the program's writing of them. Events in a row of their own, as a drawn feed holds them. No function of the program in sight. Condition: none. A region that draws its order, by an invariant: one goal for each operation. No function of the program in sight. Condition: none. A region that draws its order and ends in one operation that waits for all others: an invariant for those before it. No function of the program in sight. Condition: none. -/
import Derived.Test.YtageielcdebjlaaGreatDoorPk10
import Derived.Test.YtageielcdebjlaaGreatDoorGenE
import Derived.Orders
import Derived.Deep.DeepCutAuto
import Derived.Laws.AppendOwnNone
namespace Go.Proofs.YtageielcdebjlaaGreatDoor
open Go.RowKit
def evA (e : Ev) (z : List UInt8) : List (List UInt8) :=
 [[66, 69, 71, 73, 78, 58, 86, 69, 86, 69, 78, 84], [85, 73, 68, 58] ++ e.uid.data.toList, [83, 69, 81, 85, 69, 78, 67, 69, 58] ++ Lib.decDigits e.seq.toNat, [68, 84, 83, 84, 65, 82, 84, 59, 84, 90, 73, 68, 61] ++ z ++ [58] ++ Tt.stampL e.days.first e.start, [68, 85, 82, 65, 84, 73, 79, 78, 58, 80, 84] ++ Lib.decDigits e.mins.toNat ++ [77], [82, 82, 85, 76, 69, 58] ++ Tt.ruleL e.days]
def evX (e : Ev) (z : List UInt8) : List (List UInt8) := if e.days.ex = [] then [] else [[69, 88, 68, 65, 84, 69, 59, 84, 90, 73, 68, 61] ++ z ++ [58] ++ Tt.stampsL e.start e.days.ex]
def evR (e : Ev) (z : List UInt8) : List (List UInt8) := if e.days.xt = [] then [] else [[82, 68, 65, 84, 69, 59, 84, 90, 73, 68, 61] ++ z ++ [58] ++ Tt.stampsL e.start e.days.xt]
def evS (e : Ev) : List (List UInt8) := [[83, 85, 77, 77, 65, 82, 89, 58] ++ Tt.esc e.summ.data.toList]
def evL (e : Ev) : List (List UInt8) := if e.loc = ⟨#[]⟩ then [] else [[76, 79, 67, 65, 84, 73, 79, 78, 58] ++ Tt.esc e.loc.data.toList]
def evC (e : Ev) : List (List UInt8) := [if e.canc = true then [83, 84, 65, 84, 85, 83, 58, 67, 65, 78, 67, 69, 76, 76, 69, 68] else [83, 84, 65, 84, 85, 83, 58, 67, 79, 78, 70, 73, 82, 77, 69, 68], [69, 78, 68, 58, 86, 69, 86, 69, 78, 84]]
def evLines (e : Ev) (z : List UInt8) : List (List UInt8) := evA e z ++ evX e z ++ evR e z ++ evS e ++ evL e ++ evC e
theorem check_all {e : Ev} {v : Int} (h : checkV e v = 0) : 1 <= e.seq /\ e.seq <= v /\ Tt.serV e.days = 0 /\ Tt.serDays e.days ≠ [] /\ 0 <= e.start /\ e.start < 1440 /\ 1 <= e.mins /\ e.mins <= 1440 /\ e.summ.size ≠ 0 /\ Tt.labB e.summ.data.toList = true /\ Tt.labB e.loc.data.toList = true := by
 unfold checkV at h; split at h
 ·cases h
 ·split at h
  ·contradiction
  ·split at h
   ·cases h
   ·split at h
    ·cases h
    ·split at h
     ·cases h
     ·rename_i h1 h2 h3 h4 h5
      refine ⟨by omega, by omega, by simpa using h2, h3, by omega, by omega, by omega, by omega, ?_, ?_, ?_⟩
      ·exact fun hz => h5 (.inl hz)
      ·cases hl : Tt.labB e.summ.data.toList with
       | true => rfl
       | false => exact absurd (.inr (.inl hl)) h5
      ·cases hl : Tt.labB e.loc.data.toList with
       | true => rfl
       | false => exact absurd (.inr (.inr hl)) h5
theorem lab_size {s : ByteArray} (h : Tt.labB s.data.toList = true) : s.size <= 64 := by
 unfold Tt.labB at h; rw [Bool.and_eq_true, decide_eq_true_eq] at h; rw [Lib.size_eq]; exact h.2
theorem head_days {s : Tt.Ser} (h : Tt.serV s = 0) : (∀ d ∈ s.ex, 0 <= d /\ d <= 36524) /\ (∀ d ∈ s.xt, 0 <= d /\ d <= 36524) := by
 obtain ⟨hh, h2, h3⟩ := (Tt.serV_zero s).1 h; have f0 := hh.f0; have l1 := hh.l1; constructor
 ·intro d hd; have hr := Tt.reg_range ((Tt.listV_ok 12 (Tt.regB s) (by decide) s.ex none h2).1 d hd).1; omega
 ·intro d hd; have hk := ((Tt.listV_ok 11 (Tt.extB s) (by decide) s.xt none h3).1 d hd).1; rcases Int.lt_or_le d s.first with hc | hc
  ·rw [Tt.extB_out s d (.inl hc)] at hk; cases hk
  ·rcases Int.lt_or_le s.last d with hc2 | hc2
   ·rw [Tt.extB_out s d (.inr hc2)] at hk; cases hk
   ·omega
theorem rule_len {s : Tt.Ser} (h : Tt.Head s) : (Tt.ruleL s).length <= 80 := by
 have h1 := Tt.byL_len s.wd 7 (Nat.le_refl _); have h2 : (Lib.decDigits s.every.toNat).length = 1 := by rw [Lib.decDigits_one (by have := h.e0; have := h.e1; omega)]; rfl
 unfold Tt.ruleL; simp only [List.length_append, h2, Tt.dateL_len, List.length_cons, List.length_nil]; omega
theorem loc_empty {s : ByteArray} (h : false = !s.toList.isEmpty) : s = ⟨#[]⟩ := by
 rw [Lib.toList_data] at h; refine ByteArray.ext (Array.toList_inj.mp ?_); cases hs : s.data.toList with
 | nil => rfl
 | cons a r => rw [hs] at h; cases h
theorem loc_some {s : ByteArray} (h : true = !s.toList.isEmpty) : s ≠ ⟨#[]⟩ := by
 rintro rfl; rw [Lib.toList_data] at h; cases h
theorem one_int {w : World} (x : Int) : Ints (w.heap.size + 1) (w.alloc (.cells #[.int .i64 x] 3)) (some ⟨w.heap.size, 0, none⟩) [x] := by
 intro j y hj; rcases j with _ | j
 ·simp at hj; subst hj; exact ⟨_, rfl, Nat.lt_succ_self _, cell_one w _ _ 0 _ rfl⟩
 ·simp at hj
set_option maxRecDepth 100000 in
set_option maxHeartbeats 16000000 in
theorem event173 (b B : Nat) (xs : List ByteArray) (e : Ev) (ver : Int) (pa pb : Option Addr) (ca cb : Nat) (z : ByteArray) (w : World) (hbuf : Buf b B xs w) (hB : B <= w.heap.size) (hb6 : 6 < b) (hxs : xs.length <= 100000) (hck : checkV e ver = 0) (hver : ver <= 64) (hu : e.uid.size <= 1000) (hz : z.size <= 1000)
  (hI : Ints b w pa e.days.ex) (hI' : Ints b w pb e.days.xt) (hL : Lens w) (hP : Pow w) :
  Calls Tryz.prog 173 #[.pointer (some ⟨b, 0, none⟩), evVal e (.slice pa e.days.ex.length ca) (.slice pb e.days.xt.length cb), .string z] w fun x w' => x = .returned (.tuple #[]) /\ Buf b B (xs ++ (evLines e z.data.toList).map str) w' /\ But b B w w' /\ Keep9 b w w' := by
 obtain ⟨q0, q1, hsv, -, st0, st1, mi0, mi1, -, hls, hll⟩ := check_all hck; have hss := lab_size hls; have hsl := lab_size hll; have HH := Lh ((Tt.serV_zero e.days).1 hsv).1; have HSV := Lh hsv; have hf0 := HH.out.f0; have hf1 := HH.out.f1; have hxn : e.days.ex.length <= 140 /\ e.days.xt.length <= 140 := by have := HH.out.n; omega
 have HDD := Lh (head_days hsv); have HI := Lh hI; have HI' := Lh hI'; have HL := Lh hL; have HP := Lh hP; have hbB : b <= B := Nat.le_of_lt hbuf.lt; have hb3 : 3 < b := by omega
 have hGb : w.heap.size ≠ b := by have := hbuf.lt; omega
 have HF0 := Lh (hbuf.kept (below_box w (.cells (evCells e (.slice pa e.days.ex.length ca) (.slice pb e.days.xt.length cb)) 82))); have HG0 := Lh (Blk.new w (evCells e (.slice pa e.days.ex.length ca) (.slice pb e.days.xt.length cb)) 82); have HK0 := Lh (But.of_below (b := b) ((below_box w (.cells (evCells e (.slice pa e.days.ex.length ca) (.slice pb e.days.xt.length cb)) 82)).mono hB)); have HQ0 := Lh (Keep9.made (b := b) (below_box w (.cells (evCells e (.slice pa e.days.ex.length ca) (.slice pb e.days.xt.length cb)) 82))); obtain ⟨G, hG⟩ : ∃ G, G = w.heap.size := ⟨_, rfl⟩
 obtain ⟨w0, hw0⟩ : ∃ w0, w0 = w.alloc (.cells (evCells e (.slice pa e.days.ex.length ca) (.slice pb e.days.xt.length cb)) 82) := ⟨_, rfl⟩
 rw [<- hw0] at HF0 HG0 HK0 HQ0; rw [<- hG] at HG0 hGb; obtain ⟨y0, hy0⟩ : ∃ y0, y0 = xs := ⟨_, rfl⟩
 have HY0 := Lh hy0; have HN0 := Lh (show y0.length <= xs.length + 0 from by rw [hy0]; omega); rw [<- hy0] at HF0; have HC : Hid (Calls Tryz.prog 250 #[serVal e.days (.slice pa e.days.ex.length ca) (.slice pb e.days.xt.length cb)] w0 fun x w' => x = .returned (.tuple #[.string ⟨(Tt.ruleL e.days).toArray⟩, .int .i64 0]) /\ Below w0.heap.size w0 w') := Lh (format250 e.days b w0 hsv pa pb ca cb (Nat.le_trans hbB (Nat.le_trans hB HK0.out.size)) (hI.below (HK0.out.below (Nat.le_refl b) hbB)) (hI'.below (HK0.out.below (Nat.le_refl b) hbB)) (hL.below hb3 (HK0.out.below (Nat.le_refl b) hbB)) (hP.below hb6 (HK0.out.below (Nat.le_refl b) hbB)) (Nat.lt_of_lt_of_le hb6 (Nat.le_trans hbB (Nat.le_trans hB HK0.out.size)))); have HIX : Hid (∀ W : World, But b B w W -> Ints b W pa e.days.ex) := Lh (fun W h => hI.below (h.below (Nat.le_refl b) hbB)); have HIR : Hid (∀ W : World, But b B w W -> Ints b W pb e.days.xt) := Lh (fun W h => hI'.below (h.below (Nat.le_refl b) hbB)); obtain ⟨ex, hex⟩ : ∃ n, n = e.days.ex.length := ⟨_, rfl⟩
 obtain ⟨xt, hxt⟩ : ∃ n, n = e.days.xt.length := ⟨_, rfl⟩
 have HEX := Lh hex; have HXT := Lh hxt; unfold serVal at HC; unfold evVal; unfold evCells at hw0 ⊢; rw [<- hex, <- hxt] at HG0 HC hw0 hxn ⊢; clear hbuf hck hsv hls hll hI hI' hL hP hy0 hex hxt HI HI'; go_enter Tryz.func173, Tryz.ntmps173; go_upto_region 1 with (fail); rw [<- hw0, <- hG]; clear hw0 hG; obtain ⟨c0, c1, c2, c3, c4, c5, c6, c7, c8, c9, c10, c11, c12⟩ := EvBox.c (e := e) (v := .slice pa ex ca) (v' := .slice pb xt cb) HG0.out; simp only [Nat.zero_add] at c0 c1 c2 c3 c4 c5 c6 c7 c8 c9 c10 c11 c12; go_wp2_with fail; refine (HC.out).mono ?_; rintro x w1 ⟨rfl, hb⟩; obtain ⟨t1, ht⟩ : ∃ t, t = (⟨(Tt.ruleL e.days).toArray⟩ : ByteArray) := ⟨_, rfl⟩
 have zt1 : t1.size <= 80 := by rw [ht, size_mk]; exact rule_len HH.out
 rw [<- ht]; have HT1 := Lh (show t1.data.toList = Tt.ruleL e.days from by rw [ht]); clear ht; clear c0 c1 c2 c3 c4 c5 c6 c7 c8 c9 c10 c11 c12; have HF1 := Lh (HF0.out.kept hb); have HG1 := Lh (HG0.out.below hb HG0.out.lt); have HK1 := Lh (HK0.out.trans (But.of_below (hb.mono (Nat.le_trans hB HK0.out.size)))); have HQ1 := Lh (HQ0.out.trans (Keep9.made hb)); clear hb HF0 HG0 HK0 HQ0; clear HC; go_wp2_with fail; refine (put_parts2 b B w1.heap.size y0 [⟨#[66, 69, 71, 73, 78, 58, 86, 69, 86, 69, 78, 84]⟩] w1 rfl HF1.out (Nat.le_trans hB HK1.out.size) (by simp) (by simp only [List.map_cons, List.map_nil, List.flatten_cons, List.flatten_nil, List.append_nil, List.length_cons, List.length_nil]; omega) (by have := HN0.out; omega)).mono ?_; rintro x w2 ⟨rfl, hf, hk, hq⟩; obtain ⟨y2, hy⟩ : ∃ y, y = y0 ++ [str ([66, 69, 71, 73, 78, 58, 86, 69, 86, 69, 78, 84])] := ⟨_, rfl⟩
 have HF2 := Lh (show Buf b B y2 w2 from by rw [hy]; simpa only [List.map_cons, List.map_nil, List.flatten_cons, List.flatten_nil, List.append_nil, List.append_assoc, List.cons_append, List.nil_append] using hf); have HY2 := Lh hy; have HN2 := Lh (show y2.length <= xs.length + 1 from by rw [hy, List.length_append]; have := HN0.out; simp only [List.length_cons, List.length_nil]; omega); have HK2 := Lh (HK1.out.trans hk); have HG2 := Lh (hq G _ 82 (by decide) hGb HG1.out); have HQ2 := Lh (HQ1.out.trans hq); clear hf hy hk hq HF1 HG1 HK1 HQ1; obtain ⟨c0, c1, c2, c3, c4, c5, c6, c7, c8, c9, c10, c11, c12⟩ := EvBox.c (e := e) (v := .slice pa ex ca) (v' := .slice pb xt cb) HG2.out; simp only [Nat.zero_add] at c0 c1 c2 c3 c4 c5 c6 c7 c8 c9 c10 c11 c12; go_wp2_with fail; refine (put_parts2 b B w2.heap.size y2 [⟨#[85, 73, 68, 58]⟩, e.uid] w2 rfl HF2.out (Nat.le_trans hB HK2.out.size) (by simp) (by simp only [List.map_cons, List.map_nil, List.flatten_cons, List.flatten_nil, List.append_nil, List.length_append, List.length_cons, List.length_nil, <- Lib.size_eq]; omega) (by have := HN2.out; omega)).mono ?_; rintro x w3 ⟨rfl, hf, hk, hq⟩; obtain ⟨y3, hy⟩ : ∃ y, y = y2 ++ [str ([85, 73, 68, 58] ++ e.uid.data.toList)] := ⟨_, rfl⟩
 have HF3 := Lh (show Buf b B y3 w3 from by rw [hy]; simpa only [List.map_cons, List.map_nil, List.flatten_cons, List.flatten_nil, List.append_nil, List.append_assoc, List.cons_append, List.nil_append] using hf); have HY3 := Lh hy; have HN3 := Lh (show y3.length <= xs.length + 2 from by rw [hy, List.length_append]; have := HN2.out; simp only [List.length_cons, List.length_nil]; omega); have HK3 := Lh (HK2.out.trans hk); have HG3 := Lh (hq G _ 82 (by decide) hGb HG2.out); have HQ3 := Lh (HQ2.out.trans hq); clear hf hy hk hq HF2 HG2 HK2 HQ2; clear c0 c1 c2 c3 c4 c5 c6 c7 c8 c9 c10 c11 c12; obtain ⟨c0, c1, c2, c3, c4, c5, c6, c7, c8, c9, c10, c11, c12⟩ := EvBox.c (e := e) (v := .slice pa ex ca) (v' := .slice pb xt cb) HG3.out; simp only [Nat.zero_add] at c0 c1 c2 c3 c4 c5 c6 c7 c8 c9 c10 c11 c12; go_wp2_with fail; refine (itoa136 e.seq w3 (HP.out.below hb6 (HK3.out.below (Nat.le_refl b) hbB)) (by omega) (by omega)).mono ?_; rintro x w4 ⟨rfl, hb⟩; obtain ⟨t4, ht⟩ : ∃ t, t = (⟨(Lib.decDigits e.seq.toNat).toArray⟩ : ByteArray) := ⟨_, rfl⟩
 have zt4 : t4.size <= 5 := by rw [ht, size_mk]; exact Tt.dec_len 4 _ (by omega)
 rw [<- ht]; have HT4 := Lh (show t4.data.toList = Lib.decDigits e.seq.toNat from by rw [ht]); clear ht; clear c0 c1 c2 c3 c4 c5 c6 c7 c8 c9 c10 c11 c12; have HF4 := Lh (HF3.out.kept hb); have HG4 := Lh (HG3.out.below hb HG3.out.lt); have HK4 := Lh (HK3.out.trans (But.of_below (hb.mono (Nat.le_trans hB HK3.out.size)))); have HQ4 := Lh (HQ3.out.trans (Keep9.made hb)); clear hb HF3 HG3 HK3 HQ3; go_wp2_with fail; refine (put_parts2 b B w4.heap.size y3 [⟨#[83, 69, 81, 85, 69, 78, 67, 69, 58]⟩, t4] w4 rfl HF4.out (Nat.le_trans hB HK4.out.size) (by simp) (by simp only [List.map_cons, List.map_nil, List.flatten_cons, List.flatten_nil, List.append_nil, List.length_append, List.length_cons, List.length_nil, <- Lib.size_eq]; omega) (by have := HN3.out; omega)).mono ?_; rintro x w5 ⟨rfl, hf, hk, hq⟩; obtain ⟨y5, hy⟩ : ∃ y, y = y3 ++ [str ([83, 69, 81, 85, 69, 78, 67, 69, 58] ++ Lib.decDigits e.seq.toNat)] := ⟨_, rfl⟩
 have HF5 := Lh (show Buf b B y5 w5 from by rw [hy]; simpa only [List.map_cons, List.map_nil, List.flatten_cons, List.flatten_nil, List.append_nil, List.append_assoc, List.cons_append, List.nil_append, HT4.out] using hf); have HY5 := Lh hy; have HN5 := Lh (show y5.length <= xs.length + 3 from by rw [hy, List.length_append]; have := HN3.out; simp only [List.length_cons, List.length_nil]; omega); have HK5 := Lh (HK4.out.trans hk); have HG5 := Lh (hq G _ 82 (by decide) hGb HG4.out); have HQ5 := Lh (HQ4.out.trans hq); clear hf hy hk hq HF4 HG4 HK4 HQ4; obtain ⟨c0, c1, c2, c3, c4, c5, c6, c7, c8, c9, c10, c11, c12⟩ := EvBox.c (e := e) (v := .slice pa ex ca) (v' := .slice pb xt cb) HG5.out; simp only [Nat.zero_add] at c0 c1 c2 c3 c4 c5 c6 c7 c8 c9 c10 c11 c12; have hGlt := HG5.out.lt; go_wp2_with fail; clear hGlt; obtain ⟨g5, hg5⟩ : ∃ g, g = w5.heap.size := ⟨_, rfl⟩
 obtain ⟨wA, hwA⟩ : ∃ W, W = w5.alloc (.cells #[.int .i64 e.days.first] 3) := ⟨_, rfl⟩
 have HON := Lh (show Ints (g5 + 1) wA (some ⟨g5, 0, none⟩) [e.days.first] /\ g5 + 1 <= wA.heap.size from by rw [hwA, hg5]; exact ⟨one_int _, by simp⟩); have hb : Below w5.heap.size w5 wA := by rw [hwA]; exact below_box w5 _
 rw [<- hwA, <- hg5]; clear hwA hg5; clear c0 c1 c2 c3 c4 c5 c6 c7 c8 c9 c10 c11 c12; have HFA := Lh (HF5.out.kept hb); have HGA := Lh (HG5.out.below hb HG5.out.lt); have HKA := Lh (HK5.out.trans (But.of_below (hb.mono (Nat.le_trans hB HK5.out.size)))); have HQA := Lh (HQ5.out.trans (Keep9.made hb)); clear hb HF5 HG5 HK5 HQ5; refine (times251 [e.days.first] (some ⟨g5, 0, none⟩) 1 e.start (g5 + 1) wA HON.out.2 HON.out.1 (by simp) (fun d hd => by rw [List.mem_singleton.1 hd]; exact ⟨hf0, hf1⟩) st0 st1 (HL.out.below hb3 (HKA.out.below (Nat.le_refl b) hbB)) (HP.out.below hb6 (HKA.out.below (Nat.le_refl b) hbB)) (Nat.lt_of_lt_of_le hb6 (Nat.le_trans hbB (Nat.le_trans hB HKA.out.size)))).mono ?_; rintro x w6 ⟨rfl, hb⟩; rw [show Tt.stampsL e.start [e.days.first] = Tt.stampL e.days.first e.start from rfl]; obtain ⟨t6, ht⟩ : ∃ t, t = (⟨(Tt.stampL e.days.first e.start).toArray⟩ : ByteArray) := ⟨_, rfl⟩
 have zt6 : t6.size <= 15 := by rw [ht, size_mk]; exact Nat.le_of_eq (Tt.stampL_len _ _)
 rw [<- ht]; have HT6 := Lh (show t6.data.toList = Tt.stampL e.days.first e.start from by rw [ht]); clear ht; have HF6 := Lh (HFA.out.kept hb); have HG6 := Lh (HGA.out.below hb HGA.out.lt); have HK6 := Lh (HKA.out.trans (But.of_below (hb.mono (Nat.le_trans hB HKA.out.size)))); have HQ6 := Lh (HQA.out.trans (Keep9.made hb)); clear hb HFA HGA HKA HQA; clear HON; go_wp2_with fail; refine (put_parts2 b B w6.heap.size y5 [⟨#[68, 84, 83, 84, 65, 82, 84, 59, 84, 90, 73, 68, 61]⟩, z, ⟨#[58]⟩, t6] w6 rfl HF6.out (Nat.le_trans hB HK6.out.size) (by simp) (by simp only [List.map_cons, List.map_nil, List.flatten_cons, List.flatten_nil, List.append_nil, List.length_append, List.length_cons, List.length_nil, <- Lib.size_eq]; omega) (by have := HN5.out; omega)).mono ?_; rintro x w7 ⟨rfl, hf, hk, hq⟩; obtain ⟨y7, hy⟩ : ∃ y, y = y5 ++ [str ([68, 84, 83, 84, 65, 82, 84, 59, 84, 90, 73, 68, 61] ++ z.data.toList ++ [58] ++ Tt.stampL e.days.first e.start)] := ⟨_, rfl⟩
 have HF7 := Lh (show Buf b B y7 w7 from by rw [hy]; simpa only [List.map_cons, List.map_nil, List.flatten_cons, List.flatten_nil, List.append_nil, List.append_assoc, List.cons_append, List.nil_append, HT6.out] using hf); have HY7 := Lh hy; have HN7 := Lh (show y7.length <= xs.length + 4 from by rw [hy, List.length_append]; have := HN5.out; simp only [List.length_cons, List.length_nil]; omega); have HK7 := Lh (HK6.out.trans hk); have HG7 := Lh (hq G _ 82 (by decide) hGb HG6.out); have HQ7 := Lh (HQ6.out.trans hq); clear hf hy hk hq HF6 HG6 HK6 HQ6; obtain ⟨c0, c1, c2, c3, c4, c5, c6, c7, c8, c9, c10, c11, c12⟩ := EvBox.c (e := e) (v := .slice pa ex ca) (v' := .slice pb xt cb) HG7.out; simp only [Nat.zero_add] at c0 c1 c2 c3 c4 c5 c6 c7 c8 c9 c10 c11 c12; go_wp2_with fail; refine (itoa136 e.mins w7 (HP.out.below hb6 (HK7.out.below (Nat.le_refl b) hbB)) (by omega) (by omega)).mono ?_; rintro x w8 ⟨rfl, hb⟩; obtain ⟨t8, ht⟩ : ∃ t, t = (⟨(Lib.decDigits e.mins.toNat).toArray⟩ : ByteArray) := ⟨_, rfl⟩
 have zt8 : t8.size <= 5 := by rw [ht, size_mk]; exact Tt.dec_len 4 _ (by omega)
 rw [<- ht]; have HT8 := Lh (show t8.data.toList = Lib.decDigits e.mins.toNat from by rw [ht]); clear ht; clear c0 c1 c2 c3 c4 c5 c6 c7 c8 c9 c10 c11 c12; have HF8 := Lh (HF7.out.kept hb); have HG8 := Lh (HG7.out.below hb HG7.out.lt); have HK8 := Lh (HK7.out.trans (But.of_below (hb.mono (Nat.le_trans hB HK7.out.size)))); have HQ8 := Lh (HQ7.out.trans (Keep9.made hb)); clear hb HF7 HG7 HK7 HQ7; go_wp2_with fail; refine (put_parts2 b B w8.heap.size y7 [⟨#[68, 85, 82, 65, 84, 73, 79, 78, 58, 80, 84]⟩, t8, ⟨#[77]⟩] w8 rfl HF8.out (Nat.le_trans hB HK8.out.size) (by simp) (by simp only [List.map_cons, List.map_nil, List.flatten_cons, List.flatten_nil, List.append_nil, List.length_append, List.length_cons, List.length_nil, <- Lib.size_eq]; omega) (by have := HN7.out; omega)).mono ?_; rintro x w9 ⟨rfl, hf, hk, hq⟩; obtain ⟨y9, hy⟩ : ∃ y, y = y7 ++ [str ([68, 85, 82, 65, 84, 73, 79, 78, 58, 80, 84] ++ Lib.decDigits e.mins.toNat ++ [77])] := ⟨_, rfl⟩
 have HF9 := Lh (show Buf b B y9 w9 from by rw [hy]; simpa only [List.map_cons, List.map_nil, List.flatten_cons, List.flatten_nil, List.append_nil, List.append_assoc, List.cons_append, List.nil_append, HT8.out] using hf); have HY9 := Lh hy; have HN9 := Lh (show y9.length <= xs.length + 5 from by rw [hy, List.length_append]; have := HN7.out; simp only [List.length_cons, List.length_nil]; omega); have HK9 := Lh (HK8.out.trans hk); have HG9 := Lh (hq G _ 82 (by decide) hGb HG8.out); have HQ9 := Lh (HQ8.out.trans hq); clear hf hy hk hq HF8 HG8 HK8 HQ8; go_wp2_with fail; refine (put_parts2 b B w9.heap.size y9 [⟨#[82, 82, 85, 76, 69, 58]⟩, t1] w9 rfl HF9.out (Nat.le_trans hB HK9.out.size) (by simp) (by simp only [List.map_cons, List.map_nil, List.flatten_cons, List.flatten_nil, List.append_nil, List.length_append, List.length_cons, List.length_nil, <- Lib.size_eq]; omega) (by have := HN9.out; omega)).mono ?_; rintro x w10 ⟨rfl, hf, hk, hq⟩; obtain ⟨y10, hy⟩ : ∃ y, y = y9 ++ [str ([82, 82, 85, 76, 69, 58] ++ Tt.ruleL e.days)] := ⟨_, rfl⟩
 have HF10 := Lh (show Buf b B y10 w10 from by rw [hy]; simpa only [List.map_cons, List.map_nil, List.flatten_cons, List.flatten_nil, List.append_nil, List.append_assoc, List.cons_append, List.nil_append, HT1.out] using hf); have HY10 := Lh hy; have HN10 := Lh (show y10.length <= xs.length + 6 from by rw [hy, List.length_append]; have := HN9.out; simp only [List.length_cons, List.length_nil]; omega); have HK10 := Lh (HK9.out.trans hk); have HG10 := Lh (hq G _ 82 (by decide) hGb HG9.out); have HQ10 := Lh (HQ9.out.trans hq); clear hf hy hk hq HF9 HG9 HK9 HQ9; have HYA := Lh (show y10 = xs ++ (evA e z.data.toList).map str from by rw [HY10.out, HY9.out, HY7.out, HY5.out, HY3.out, HY2.out, HY0.out]; simp [evA]); clear HY2 HY3 HY5 HY7 HY9 HY10 HY0; obtain ⟨c0, c1, c2, c3, c4, c5, c6, c7, c8, c9, c10, c11, c12⟩ := EvBox.c (e := e) (v := .slice pa ex ca) (v' := .slice pb xt cb) HG10.out; simp only [Nat.zero_add] at c0 c1 c2 c3 c4 c5 c6 c7 c8 c9 c10 c11 c12; go_upto_if 53 with (fail)
 go_cut [54] (fun _ wx => ∃ y : List ByteArray, y.length <= xs.length + 7 /\ Hid (y = xs ++ (evA e z.data.toList ++ evX e z.data.toList).map str) /\ Hid (Buf b B y wx) /\ Hid (Blk G (evCells e (.slice pa ex ca) (.slice pb xt cb)) 82 wx) /\ Hid (But b B w wx) /\ Hid (Keep9 b w wx))
 case first =>
  by_cases hopt : e.days.ex = []
  ·have hx0 : ¬ (0 : Int) < ex := by have h1 := HEX.out; rw [hopt, List.length_nil] at h1; omega
   skip
   go_wp2_with fail; go_meet; exact ⟨y10, by have := HN10.out; omega, Lh (by rw [HYA.out]; unfold evX; rw [if_pos hopt, List.append_nil]), HF10, HG10, HK10, HQ10⟩
  ·have hx0 : (0 : Int) < ex := by have h1 := HEX.out; have h2 : e.days.ex.length ≠ 0 := fun h => hopt (List.eq_nil_of_length_eq_zero h); omega
   have HTX : Hid (Calls Tryz.prog 251 #[.slice pa ex ca, .int .i64 e.start] w10 fun x w' => x = .returned (.string ⟨(Tt.stampsL e.start e.days.ex).toArray⟩) /\ Below w10.heap.size w10 w') := Lh (by have h := times251 e.days.ex pa ca e.start b w10 (Nat.le_trans hbB (Nat.le_trans hB HK10.out.size)) (HIX.out w10 HK10.out) (by have := HEX.out; omega) HDD.out.1 st0 st1 (HL.out.below hb3 (HK10.out.below (Nat.le_refl b) hbB)) (HP.out.below hb6 (HK10.out.below (Nat.le_refl b) hbB)) (Nat.lt_of_lt_of_le hb6 (Nat.le_trans hbB (Nat.le_trans hB HK10.out.size))); rw [<- HEX.out] at h; exact h); go_wp2_with fail; refine (HTX.out).mono ?_; rintro x wx1 ⟨rfl, hb⟩; obtain ⟨tx1, ht⟩ : ∃ t, t = (⟨(Tt.stampsL e.start e.days.ex).toArray⟩ : ByteArray) := ⟨_, rfl⟩
   have ztx1 : tx1.size <= 16000 := by rw [ht, size_mk]; exact Nat.le_trans (Tt.stampsL_len _ _) (by have := HEX.out; omega)
   rw [<- ht]; have HTx1 := Lh (show tx1.data.toList = Tt.stampsL e.start e.days.ex from by rw [ht]); clear ht; clear c0 c1 c2 c3 c4 c5 c6 c7 c8 c9 c10 c11 c12; have HFx1 := Lh (HF10.out.kept hb); have HGx1 := Lh (HG10.out.below hb HG10.out.lt); have HKx1 := Lh (HK10.out.trans (But.of_below (hb.mono (Nat.le_trans hB HK10.out.size)))); have HQx1 := Lh (HQ10.out.trans (Keep9.made hb)); clear hb HF10 HG10 HK10 HQ10; clear HTX; go_wp2_with fail; refine (put_parts2 b B wx1.heap.size y10 [⟨#[69, 88, 68, 65, 84, 69, 59, 84, 90, 73, 68, 61]⟩, z, ⟨#[58]⟩, tx1] wx1 rfl HFx1.out (Nat.le_trans hB HKx1.out.size) (by simp) (by simp only [List.map_cons, List.map_nil, List.flatten_cons, List.flatten_nil, List.append_nil, List.length_append, List.length_cons, List.length_nil, <- Lib.size_eq]; omega) (by have := HN10.out; omega)).mono ?_; rintro x wx2 ⟨rfl, hf, hk, hq⟩; obtain ⟨yx2, hy⟩ : ∃ y, y = y10 ++ [str ([69, 88, 68, 65, 84, 69, 59, 84, 90, 73, 68, 61] ++ z.data.toList ++ [58] ++ Tt.stampsL e.start e.days.ex)] := ⟨_, rfl⟩
   have HFx2 := Lh (show Buf b B yx2 wx2 from by rw [hy]; simpa only [List.map_cons, List.map_nil, List.flatten_cons, List.flatten_nil, List.append_nil, List.append_assoc, List.cons_append, List.nil_append, HTx1.out] using hf); have HYx2 := Lh hy; have HNx2 := Lh (show yx2.length <= xs.length + 7 from by rw [hy, List.length_append]; have := HN10.out; simp only [List.length_cons, List.length_nil]; omega); have HKx2 := Lh (HKx1.out.trans hk); have HGx2 := Lh (hq G _ 82 (by decide) hGb HGx1.out); have HQx2 := Lh (HQx1.out.trans hq); clear hf hy hk hq HFx1 HGx1 HKx1 HQx1; go_wp2_with fail; go_meet; exact ⟨yx2, by have := HNx2.out; omega, Lh (by rw [HYx2.out, HYA.out]; unfold evX; rw [if_neg hopt]; simp only [List.map_append, List.map_cons, List.map_nil, List.append_assoc]), HFx2, HGx2, HKx2, HQx2⟩
 case rest =>
  clear HF10 HG10 HK10 HQ10 HYA HN10 c0 c1 c2 c3 c4 c5 c6 c7 c8 c9 c10 c11 c12; obtain ⟨ycx, hnc, HYA, HFc, HGc, HKc, HQc⟩ := hcut; have HNcx := Lh hnc; clear hnc; obtain ⟨c0, c1, c2, c3, c4, c5, c6, c7, c8, c9, c10, c11, c12⟩ := EvBox.c (e := e) (v := .slice pa ex ca) (v' := .slice pb xt cb) HGc.out; simp only [Nat.zero_add] at c0 c1 c2 c3 c4 c5 c6 c7 c8 c9 c10 c11 c12; go_upto_if 68 with (fail)
  go_cut [69] (fun _ wx => ∃ y : List ByteArray, y.length <= xs.length + 8 /\ Hid (y = xs ++ (evA e z.data.toList ++ evX e z.data.toList ++ evR e z.data.toList).map str) /\ Hid (Buf b B y wx) /\ Hid (Blk G (evCells e (.slice pa ex ca) (.slice pb xt cb)) 82 wx) /\ Hid (But b B w wx) /\ Hid (Keep9 b w wx))
  case first =>
   by_cases hopt : e.days.xt = []
   ·have hx0 : ¬ (0 : Int) < xt := by have h1 := HXT.out; rw [hopt, List.length_nil] at h1; omega
    go_wp2_with fail; go_meet; exact ⟨ycx, by have := HNcx.out; omega, Lh (by rw [HYA.out]; unfold evR; rw [if_pos hopt, List.append_nil]), HFc, HGc, HKc, HQc⟩
   ·have hx0 : (0 : Int) < xt := by have h1 := HXT.out; have h2 : e.days.xt.length ≠ 0 := fun h => hopt (List.eq_nil_of_length_eq_zero h); omega
    have HTX : Hid (Calls Tryz.prog 251 #[.slice pb xt cb, .int .i64 e.start] wc fun x w' => x = .returned (.string ⟨(Tt.stampsL e.start e.days.xt).toArray⟩) /\ Below wc.heap.size wc w') := Lh (by have h := times251 e.days.xt pb cb e.start b wc (Nat.le_trans hbB (Nat.le_trans hB HKc.out.size)) (HIR.out wc HKc.out) (by have := HXT.out; omega) HDD.out.2 st0 st1 (HL.out.below hb3 (HKc.out.below (Nat.le_refl b) hbB)) (HP.out.below hb6 (HKc.out.below (Nat.le_refl b) hbB)) (Nat.lt_of_lt_of_le hb6 (Nat.le_trans hbB (Nat.le_trans hB HKc.out.size))); rw [<- HXT.out] at h; exact h); go_wp2_with fail; refine (HTX.out).mono ?_; rintro x wq1 ⟨rfl, hb⟩; obtain ⟨tq1, ht⟩ : ∃ t, t = (⟨(Tt.stampsL e.start e.days.xt).toArray⟩ : ByteArray) := ⟨_, rfl⟩
    have ztq1 : tq1.size <= 16000 := by rw [ht, size_mk]; exact Nat.le_trans (Tt.stampsL_len _ _) (by have := HXT.out; omega)
    rw [<- ht]; have HTq1 := Lh (show tq1.data.toList = Tt.stampsL e.start e.days.xt from by rw [ht]); clear ht; clear c0 c1 c2 c3 c4 c5 c6 c7 c8 c9 c10 c11 c12; have HFq1 := Lh (HFc.out.kept hb); have HGq1 := Lh (HGc.out.below hb HGc.out.lt); have HKq1 := Lh (HKc.out.trans (But.of_below (hb.mono (Nat.le_trans hB HKc.out.size)))); have HQq1 := Lh (HQc.out.trans (Keep9.made hb)); clear hb HFc HGc HKc HQc; clear HTX; go_wp2_with fail; refine (put_parts2 b B wq1.heap.size ycx [⟨#[82, 68, 65, 84, 69, 59, 84, 90, 73, 68, 61]⟩, z, ⟨#[58]⟩, tq1] wq1 rfl HFq1.out (Nat.le_trans hB HKq1.out.size) (by simp) (by simp only [List.map_cons, List.map_nil, List.flatten_cons, List.flatten_nil, List.append_nil, List.length_append, List.length_cons, List.length_nil, <- Lib.size_eq]; omega) (by have := HNcx.out; omega)).mono ?_; rintro x wq2 ⟨rfl, hf, hk, hq⟩; obtain ⟨yq2, hy⟩ : ∃ y, y = ycx ++ [str ([82, 68, 65, 84, 69, 59, 84, 90, 73, 68, 61] ++ z.data.toList ++ [58] ++ Tt.stampsL e.start e.days.xt)] := ⟨_, rfl⟩
    have HFq2 := Lh (show Buf b B yq2 wq2 from by rw [hy]; simpa only [List.map_cons, List.map_nil, List.flatten_cons, List.flatten_nil, List.append_nil, List.append_assoc, List.cons_append, List.nil_append, HTq1.out] using hf); have HYq2 := Lh hy; have HNq2 := Lh (show yq2.length <= xs.length + 8 from by rw [hy, List.length_append]; have := HNcx.out; simp only [List.length_cons, List.length_nil]; omega); have HKq2 := Lh (HKq1.out.trans hk); have HGq2 := Lh (hq G _ 82 (by decide) hGb HGq1.out); have HQq2 := Lh (HQq1.out.trans hq); clear hf hy hk hq HFq1 HGq1 HKq1 HQq1; go_wp2_with fail; go_meet; exact ⟨yq2, by have := HNq2.out; omega, Lh (by rw [HYq2.out, HYA.out]; unfold evR; rw [if_neg hopt]; simp only [List.map_append, List.map_cons, List.map_nil, List.append_assoc]), HFq2, HGq2, HKq2, HQq2⟩
  case rest =>
   clear HFc HGc HKc HQc HYA HNcx c0 c1 c2 c3 c4 c5 c6 c7 c8 c9 c10 c11 c12; obtain ⟨ycq, hnc, HYA, HFc, HGc, HKc, HQc⟩ := hcut; have HNcq := Lh hnc; clear hnc; obtain ⟨c0, c1, c2, c3, c4, c5, c6, c7, c8, c9, c10, c11, c12⟩ := EvBox.c (e := e) (v := .slice pa ex ca) (v' := .slice pb xt cb) HGc.out; simp only [Nat.zero_add] at c0 c1 c2 c3 c4 c5 c6 c7 c8 c9 c10 c11 c12; go_wp2_with fail; refine (escape_any e.summ wc (by omega)).mono ?_; rintro x wrq1 ⟨rfl, hb⟩; obtain ⟨trq1, ht⟩ : ∃ t, t = (⟨(Tt.esc e.summ.data.toList).toArray⟩ : ByteArray) := ⟨_, rfl⟩
   have ztrq1 : trq1.size <= 128 := by rw [ht, size_mk]; exact Nat.le_trans (Tt.esc_length _) (by rw [<- Lib.size_eq]; omega)
   rw [<- ht]; have HTrq1 := Lh (show trq1.data.toList = Tt.esc e.summ.data.toList from by rw [ht]); clear ht; clear c0 c1 c2 c3 c4 c5 c6 c7 c8 c9 c10 c11 c12; have HFrq1 := Lh (HFc.out.kept hb); have HGrq1 := Lh (HGc.out.below hb HGc.out.lt); have HKrq1 := Lh (HKc.out.trans (But.of_below (hb.mono (Nat.le_trans hB HKc.out.size)))); have HQrq1 := Lh (HQc.out.trans (Keep9.made hb)); clear hb HFc HGc HKc HQc; go_wp2_with fail; refine (put_parts2 b B wrq1.heap.size ycq [⟨#[83, 85, 77, 77, 65, 82, 89, 58]⟩, trq1] wrq1 rfl HFrq1.out (Nat.le_trans hB HKrq1.out.size) (by simp) (by simp only [List.map_cons, List.map_nil, List.flatten_cons, List.flatten_nil, List.append_nil, List.length_append, List.length_cons, List.length_nil, <- Lib.size_eq]; omega) (by have := HNcq.out; omega)).mono ?_; rintro x wrq2 ⟨rfl, hf, hk, hq⟩; obtain ⟨yrq2, hy⟩ : ∃ y, y = ycq ++ [str ([83, 85, 77, 77, 65, 82, 89, 58] ++ Tt.esc e.summ.data.toList)] := ⟨_, rfl⟩
   have HFrq2 := Lh (show Buf b B yrq2 wrq2 from by rw [hy]; simpa only [List.map_cons, List.map_nil, List.flatten_cons, List.flatten_nil, List.append_nil, List.append_assoc, List.cons_append, List.nil_append, HTrq1.out] using hf); have HYrq2 := Lh hy; have HNrq2 := Lh (show yrq2.length <= xs.length + 9 from by rw [hy, List.length_append]; have := HNcq.out; simp only [List.length_cons, List.length_nil]; omega); have HKrq2 := Lh (HKrq1.out.trans hk); have HGrq2 := Lh (hq G _ 82 (by decide) hGb HGrq1.out); have HQrq2 := Lh (HQrq1.out.trans hq); clear hf hy hk hq HFrq1 HGrq1 HKrq1 HQrq1; have HYA := Lh (show yrq2 = xs ++ (evA e z.data.toList ++ evX e z.data.toList ++ evR e z.data.toList ++ evS e).map str from by rw [HYrq2.out, HYA.out]; simp only [evS, List.map_append, List.map_cons, List.map_nil, List.append_assoc]); obtain ⟨c0, c1, c2, c3, c4, c5, c6, c7, c8, c9, c10, c11, c12⟩ := EvBox.c (e := e) (v := .slice pa ex ca) (v' := .slice pb xt cb) HGrq2.out; simp only [Nat.zero_add] at c0 c1 c2 c3 c4 c5 c6 c7 c8 c9 c10 c11 c12; go_upto_if 87 with (fail)
   obtain ⟨bl, hbl⟩ : ∃ bl, bl = (!e.loc.toList.isEmpty) := ⟨_, rfl⟩
   rw [<- hbl]; have HBL := Lh hbl; clear hbl; go_cut [88] (fun _ wx => ∃ y : List ByteArray, y.length <= xs.length + 10 /\ Hid (y = xs ++ (evA e z.data.toList ++ evX e z.data.toList ++ evR e z.data.toList ++ evS e ++ evL e).map str) /\ Hid (Buf b B y wx) /\ Hid (Blk G (evCells e (.slice pa ex ca) (.slice pb xt cb)) 82 wx) /\ Hid (But b B w wx) /\ Hid (Keep9 b w wx))
   case first =>
    cases bl
    ·have HOPT := Lh (loc_empty HBL.out); go_wp2_with fail; go_meet; exact ⟨yrq2, by have := HNrq2.out; omega, Lh (by rw [HYA.out]; unfold evL; rw [if_pos HOPT.out, List.append_nil]), HFrq2, HGrq2, HKrq2, HQrq2⟩
    ·have HOPT := Lh (loc_some HBL.out); go_wp2_with fail; refine (escape_any e.loc wrq2 (by omega)).mono ?_; rintro x wl1 ⟨rfl, hb⟩; obtain ⟨tl1, ht⟩ : ∃ t, t = (⟨(Tt.esc e.loc.data.toList).toArray⟩ : ByteArray) := ⟨_, rfl⟩
     have ztl1 : tl1.size <= 128 := by rw [ht, size_mk]; exact Nat.le_trans (Tt.esc_length _) (by rw [<- Lib.size_eq]; omega)
     rw [<- ht]; have HTl1 := Lh (show tl1.data.toList = Tt.esc e.loc.data.toList from by rw [ht]); clear ht; clear c0 c1 c2 c3 c4 c5 c6 c7 c8 c9 c10 c11 c12; have HFl1 := Lh (HFrq2.out.kept hb); have HGl1 := Lh (HGrq2.out.below hb HGrq2.out.lt); have HKl1 := Lh (HKrq2.out.trans (But.of_below (hb.mono (Nat.le_trans hB HKrq2.out.size)))); have HQl1 := Lh (HQrq2.out.trans (Keep9.made hb)); clear hb HFrq2 HGrq2 HKrq2 HQrq2; go_wp2_with fail; refine (put_parts2 b B wl1.heap.size yrq2 [⟨#[76, 79, 67, 65, 84, 73, 79, 78, 58]⟩, tl1] wl1 rfl HFl1.out (Nat.le_trans hB HKl1.out.size) (by simp) (by simp only [List.map_cons, List.map_nil, List.flatten_cons, List.flatten_nil, List.append_nil, List.length_append, List.length_cons, List.length_nil, <- Lib.size_eq]; omega) (by have := HNrq2.out; omega)).mono ?_; rintro x wl2 ⟨rfl, hf, hk, hq⟩; obtain ⟨yl2, hy⟩ : ∃ y, y = yrq2 ++ [str ([76, 79, 67, 65, 84, 73, 79, 78, 58] ++ Tt.esc e.loc.data.toList)] := ⟨_, rfl⟩
     have HFl2 := Lh (show Buf b B yl2 wl2 from by rw [hy]; simpa only [List.map_cons, List.map_nil, List.flatten_cons, List.flatten_nil, List.append_nil, List.append_assoc, List.cons_append, List.nil_append, HTl1.out] using hf); have HYl2 := Lh hy; have HNl2 := Lh (show yl2.length <= xs.length + 10 from by rw [hy, List.length_append]; have := HNrq2.out; simp only [List.length_cons, List.length_nil]; omega); have HKl2 := Lh (HKl1.out.trans hk); have HGl2 := Lh (hq G _ 82 (by decide) hGb HGl1.out); have HQl2 := Lh (HQl1.out.trans hq); clear hf hy hk hq HFl1 HGl1 HKl1 HQl1; go_wp2_with fail; go_meet; exact ⟨yl2, by have := HNl2.out; omega, Lh (by rw [HYl2.out, HYA.out]; unfold evL; rw [if_neg HOPT.out]; simp only [List.map_append, List.map_cons, List.map_nil, List.append_assoc]), HFl2, HGl2, HKl2, HQl2⟩
   case rest =>
    clear HFrq2 HGrq2 HKrq2 HQrq2 HYA HNrq2 c0 c1 c2 c3 c4 c5 c6 c7 c8 c9 c10 c11 c12; obtain ⟨ycl, hnc, HYA, HFc, HGc, HKc, HQc⟩ := hcut; have HNcl := Lh hnc; clear hnc; obtain ⟨c0, c1, c2, c3, c4, c5, c6, c7, c8, c9, c10, c11, c12⟩ := EvBox.c (e := e) (v := .slice pa ex ca) (v' := .slice pb xt cb) HGc.out; simp only [Nat.zero_add] at c0 c1 c2 c3 c4 c5 c6 c7 c8 c9 c10 c11 c12; cases hcn : e.canc
    ·rw [hcn] at c2; go_wp2_with fail; refine (put_parts2 b B wc.heap.size ycl [⟨#[83, 84, 65, 84, 85, 83, 58, 67, 79, 78, 70, 73, 82, 77, 69, 68]⟩] wc rfl HFc.out (Nat.le_trans hB HKc.out.size) (by simp) (by simp only [List.map_cons, List.map_nil, List.flatten_cons, List.flatten_nil, List.append_nil, List.length_cons, List.length_nil]; omega) (by have := HNcl.out; omega)).mono ?_; rintro x wnf1 ⟨rfl, hf, hk, hq⟩; obtain ⟨ynf1, hy⟩ : ∃ y, y = ycl ++ [str ([83, 84, 65, 84, 85, 83, 58, 67, 79, 78, 70, 73, 82, 77, 69, 68])] := ⟨_, rfl⟩
     have HFnf1 := Lh (show Buf b B ynf1 wnf1 from by rw [hy]; simpa only [List.map_cons, List.map_nil, List.flatten_cons, List.flatten_nil, List.append_nil, List.append_assoc, List.cons_append, List.nil_append] using hf); have HYnf1 := Lh hy; have HNnf1 := Lh (show ynf1.length <= xs.length + 11 from by rw [hy, List.length_append]; have := HNcl.out; simp only [List.length_cons, List.length_nil]; omega); have HKnf1 := Lh (HKc.out.trans hk); have HGnf1 := Lh (hq G _ 82 (by decide) hGb HGc.out); have HQnf1 := Lh (HQc.out.trans hq); clear hf hy hk hq HFc HGc HKc HQc; clear c0 c1 c2 c3 c4 c5 c6 c7 c8 c9 c10 c11 c12; go_wp2_with fail; refine (put_parts2 b B wnf1.heap.size ynf1 [⟨#[69, 78, 68, 58, 86, 69, 86, 69, 78, 84]⟩] wnf1 rfl HFnf1.out (Nat.le_trans hB HKnf1.out.size) (by simp) (by simp only [List.map_cons, List.map_nil, List.flatten_cons, List.flatten_nil, List.append_nil, List.length_cons, List.length_nil]; omega) (by have := HNnf1.out; omega)).mono ?_; rintro x wnf2 ⟨rfl, hf, hk, hq⟩; obtain ⟨ynf2, hy⟩ : ∃ y, y = ynf1 ++ [str ([69, 78, 68, 58, 86, 69, 86, 69, 78, 84])] := ⟨_, rfl⟩
     have HFnf2 := Lh (show Buf b B ynf2 wnf2 from by rw [hy]; simpa only [List.map_cons, List.map_nil, List.flatten_cons, List.flatten_nil, List.append_nil, List.append_assoc, List.cons_append, List.nil_append] using hf); have HYnf2 := Lh hy; have HNnf2 := Lh (show ynf2.length <= xs.length + 12 from by rw [hy, List.length_append]; have := HNnf1.out; simp only [List.length_cons, List.length_nil]; omega); have HKnf2 := Lh (HKnf1.out.trans hk); have HGnf2 := Lh (hq G _ 82 (by decide) hGb HGnf1.out); have HQnf2 := Lh (HQnf1.out.trans hq); clear hf hy hk hq HFnf1 HGnf1 HKnf1 HQnf1; go_wp2_with fail; go_end0
     have HFX := Lh (show ynf2 = xs ++ (evLines e z.data.toList).map str from by rw [HYnf2.out, HYnf1.out, HYA.out]; unfold evLines evC; rw [hcn]; simp only [List.map_append, List.map_cons, List.map_nil, List.append_assoc, Bool.false_eq_true, if_false, List.cons_append, List.nil_append]); exact ⟨rfl, by rw [<- HFX.out]; exact HFnf2.out, HKnf2.out, HQnf2.out⟩
    ·rw [hcn] at c2; go_wp2_with fail; refine (put_parts2 b B wc.heap.size ycl [⟨#[83, 84, 65, 84, 85, 83, 58, 67, 65, 78, 67, 69, 76, 76, 69, 68]⟩] wc rfl HFc.out (Nat.le_trans hB HKc.out.size) (by simp) (by simp only [List.map_cons, List.map_nil, List.flatten_cons, List.flatten_nil, List.append_nil, List.length_cons, List.length_nil]; omega) (by have := HNcl.out; omega)).mono ?_; rintro x wnt1 ⟨rfl, hf, hk, hq⟩; obtain ⟨ynt1, hy⟩ : ∃ y, y = ycl ++ [str ([83, 84, 65, 84, 85, 83, 58, 67, 65, 78, 67, 69, 76, 76, 69, 68])] := ⟨_, rfl⟩
     have HFnt1 := Lh (show Buf b B ynt1 wnt1 from by rw [hy]; simpa only [List.map_cons, List.map_nil, List.flatten_cons, List.flatten_nil, List.append_nil, List.append_assoc, List.cons_append, List.nil_append] using hf); have HYnt1 := Lh hy; have HNnt1 := Lh (show ynt1.length <= xs.length + 11 from by rw [hy, List.length_append]; have := HNcl.out; simp only [List.length_cons, List.length_nil]; omega); have HKnt1 := Lh (HKc.out.trans hk); have HGnt1 := Lh (hq G _ 82 (by decide) hGb HGc.out); have HQnt1 := Lh (HQc.out.trans hq); clear hf hy hk hq HFc HGc HKc HQc; clear c0 c1 c2 c3 c4 c5 c6 c7 c8 c9 c10 c11 c12; go_wp2_with fail; refine (put_parts2 b B wnt1.heap.size ynt1 [⟨#[69, 78, 68, 58, 86, 69, 86, 69, 78, 84]⟩] wnt1 rfl HFnt1.out (Nat.le_trans hB HKnt1.out.size) (by simp) (by simp only [List.map_cons, List.map_nil, List.flatten_cons, List.flatten_nil, List.append_nil, List.length_cons, List.length_nil]; omega) (by have := HNnt1.out; omega)).mono ?_; rintro x wnt2 ⟨rfl, hf, hk, hq⟩; obtain ⟨ynt2, hy⟩ : ∃ y, y = ynt1 ++ [str ([69, 78, 68, 58, 86, 69, 86, 69, 78, 84])] := ⟨_, rfl⟩
     have HFnt2 := Lh (show Buf b B ynt2 wnt2 from by rw [hy]; simpa only [List.map_cons, List.map_nil, List.flatten_cons, List.flatten_nil, List.append_nil, List.append_assoc, List.cons_append, List.nil_append] using hf); have HYnt2 := Lh hy; have HNnt2 := Lh (show ynt2.length <= xs.length + 12 from by rw [hy, List.length_append]; have := HNnt1.out; simp only [List.length_cons, List.length_nil]; omega); have HKnt2 := Lh (HKnt1.out.trans hk); have HGnt2 := Lh (hq G _ 82 (by decide) hGb HGnt1.out); have HQnt2 := Lh (HQnt1.out.trans hq); clear hf hy hk hq HFnt1 HGnt1 HKnt1 HQnt1; go_wp2_with fail; go_end0
     have HFX := Lh (show ynt2 = xs ++ (evLines e z.data.toList).map str from by rw [HYnt2.out, HYnt1.out, HYA.out]; unfold evLines evC; rw [hcn]; simp only [List.map_append, List.map_cons, List.map_nil, List.append_assoc, if_true, List.cons_append, List.nil_append]); exact ⟨rfl, by rw [<- HFX.out]; exact HFnt2.out, HKnt2.out, HQnt2.out⟩
end Go.Proofs.YtageielcdebjlaaGreatDoor
-- RowEv
namespace Go.Proofs.YtageielcdebjlaaGreatDoor
open Go.RowKit
def tCells (ts : List (Ev × Value × Value)) : List Value := ts.flatMap fun t => (evCells t.1 t.2.1 t.2.2).toList
theorem tCells_get : ∀ (ts : List (Ev × Value × Value)) (j i : Nat) (t : Ev × Value × Value), ts[j]? = some t -> i < 13 -> (tCells ts)[j * 13 + i]? = (evCells t.1 t.2.1 t.2.2).toList[i]?
 | [], _, _, _, h, _ => by simp at h
 | t0 :: r, 0, i, t, h, hi => by
  simp at h; subst h; show ((evCells t0.1 t0.2.1 t0.2.2).toList ++ tCells r)[0 * 13 + i]? = _
  rw [show 0 * 13 + i = i by omega, List.getElem?_append_left (by show i < 13; exact hi)]
 | t0 :: r, j + 1, i, t, h, hi => by
  show ((evCells t0.1 t0.2.1 t0.2.2).toList ++ tCells r)[(j + 1) * 13 + i]? = _
  rw [List.getElem?_append_right (by show 13 <= _; omega), show (j + 1) * 13 + i - (evCells t0.1 t0.2.1 t0.2.2).toList.length = j * 13 + i by show _ - 13 = _; omega]; exact tCells_get r j i t (by simpa using h) hi
theorem tCells_snoc (ts : List (Ev × Value × Value)) (t : Ev × Value × Value) : tCells (ts ++ [t]) = tCells ts ++ (evCells t.1 t.2.1 t.2.2).toList := by
 unfold tCells; simp
def RefG (lo : Nat) (w : World) (t : Ev × Value × Value) : Prop := EvG t.1 /\ RowI lo w t.2.1 t.1.days.ex /\ RowI lo w t.2.2 t.1.days.xt
structure RowE (lo : Nat) (w : World) (v : Value) (ts : List (Ev × Value × Value)) : Prop where
 row : w.ownsRow lo 82 13 v ts.length (tCells ts)
 ref : ∀ t ∈ ts, RefG lo w t
theorem RowE.evs {lo : Nat} {w : World} {v : Value} {ts : List (Ev × Value × Value)} (h : RowE lo w v ts) : ∃ ao c, v = .slice ao (ts.map (·.1)).length c /\ Evs w.heap.size w ao (ts.map (·.1)) := by
 rcases h.row.2 with ⟨hv, h0⟩ | ⟨g, cap, cur, hv, r2, r3, r4, r5, _⟩
 ·have : ts = [] := List.eq_nil_of_length_eq_zero h0; subst this; exact ⟨none, 0, hv, .inl rfl⟩
 ·refine ⟨_, cap, by rw [hv]; simp, .inr ⟨g, 0, rfl, (Array.getElem?_eq_some_iff.1 r3).1, fun j e hj => ?_⟩⟩; obtain ⟨t, ht, he⟩ : ∃ t, ts[j]? = some t /\ t.1 = e := by
   rw [List.getElem?_map] at hj; cases h2 : ts[j]? with
   | none => rw [h2] at hj; cases hj
   | some t => rw [h2] at hj; exact ⟨t, rfl, by simpa using hj⟩
  subst he; obtain ⟨hg, hx, hy⟩ := h.ref t (List.mem_of_getElem? ht); obtain ⟨ax, cx, e1, i1⟩ := hx.ints; obtain ⟨ay, cy, e2, i2⟩ := hy.ints; have hc : ∀ i u, i < 13 -> (evCells t.1 t.2.1 t.2.2).toList[i]? = some u -> w.cell? ⟨g, 0 + j * 13 + i, none⟩ = some u := fun i u hi hu => by
   have := h.row.cells (g := g) (by rw [hv]; rfl) (j * 13 + i) u (by rw [tCells_get ts j i t ht hi]; exact hu); rw [Addr.add_lit] at this; rw [<- this, show 0 + j * 13 + i = 0 + (j * 13 + i) by omega]
  refine ⟨hg.b, t.2.1, t.2.2, ⟨?_, ?_, ?_, ?_, ?_, ?_, ?_, ?_, ?_, ?_, ?_, ?_, ?_⟩, ⟨ax, cx, e1, i1⟩, ⟨ay, cy, e2, i2⟩⟩
  ·exact hc 0 _ (by omega) rfl
  ·exact hc 1 _ (by omega) rfl
  ·exact hc 2 _ (by omega) rfl
  ·exact hc 3 _ (by omega) rfl
  ·exact hc 4 _ (by omega) rfl
  ·exact hc 5 _ (by omega) rfl
  ·exact hc 6 _ (by omega) rfl
  ·exact hc 7 _ (by omega) rfl
  ·exact hc 8 _ (by omega) rfl
  ·exact hc 9 _ (by omega) rfl
  ·exact hc 10 _ (by omega) rfl
  ·exact hc 11 _ (by omega) rfl
  ·exact hc 12 _ (by omega) rfl
theorem RowE.nil (lo : Nat) (w : World) : RowE lo w (.slice none 0 0) [] := ⟨World.ownsRow_nil _ _ _ _, fun t h => by cases h⟩
theorem RefG.but {b lo : Nat} {w w' : World} {t : Ev × Value × Value} (h : RefG lo w t) (hb : b < lo) (ho : But b w.heap.size w w') : RefG lo w' t := ⟨h.1, row_but h.2.1 hb ho, row_but h.2.2 hb ho⟩
theorem RowE.but {b lo : Nat} {w w' : World} {v : Value} {ts : List (Ev × Value × Value)} (h : RowE lo w v ts) (hb : b < lo) (ho : But b w.heap.size w w') : RowE lo w' v ts := ⟨row_but h.row hb ho, fun t ht => (h.ref t ht).but hb ho⟩
theorem RefG.set {lo : Nat} {w : World} {t : Ev × Value × Value} (h : RefG lo w t) {g : Nat} {cs : Array Value} {ty : TypeId} (hg : Blk g cs ty w) (hte : ty ≠ 3) (i : Nat) (u : Value) : RefG lo (w.setCell ⟨g, i, none⟩ u) t := ⟨h.1, row_set h.2.1 hg hte i u, row_set h.2.2 hg hte i u⟩
theorem RowE.set {lo : Nat} {w : World} {v : Value} {ts : List (Ev × Value × Value)} (h : RowE lo w v ts) {g : Nat} {cs : Array Value} {ty : TypeId} (hg : Blk g cs ty w) (hte : ty ≠ 3) (hte2 : ty ≠ 82) (i : Nat) (u : Value) : RowE lo (w.setCell ⟨g, i, none⟩ u) v ts := ⟨row_set h.row hg hte2 i u, fun t ht => (h.ref t ht).set hg hte i u⟩
theorem RefG.grown {lo B n k : Nat} {w w' : World} {t : Ev × Value × Value} {v : Value} {xs : List Value} (h : RefG lo w t) (hown : w.ownsRow B 82 k v n xs) (hg : w.grownBy w' v.ownBlock) : RefG lo w' t :=
 ⟨h.1, World.ownsRow.kept h.2.1 hg (row_apart_ty h.2.1 hown (by decide)), World.ownsRow.kept h.2.2 hg (row_apart_ty h.2.2 hown (by decide))⟩
theorem RowE.snoc {lo : Nat} {w w' : World} {v v' : Value} {ts : List (Ev × Value × Value)} {t : Ev × Value × Value} (h : RowE lo w v ts) (ht : RefG lo w t) (hg : w.grownBy w' v.ownBlock)
  (hrow : w'.ownsRow lo 82 13 v' (ts.length + 1) (tCells ts ++ (evCells t.1 t.2.1 t.2.2).toList)) : RowE lo w' v' (ts ++ [t]) := by
 refine ⟨by rw [tCells_snoc]; simpa using hrow, fun t' h' => ?_⟩; rcases List.mem_append.1 h' with h' | h'
 ·exact (h.ref t' h').grown h.row hg
 ·rw [List.mem_singleton] at h'; subst h'; exact ht.grown h.row hg
end Go.Proofs.YtageielcdebjlaaGreatDoor
-- Inv
namespace Go.Proofs.YtageielcdebjlaaGreatDoor
open Go.RowKit
theorem filter_le' {α : Type} (p q : α -> Bool) : ∀ l : List α, (∀ x ∈ l, q x = true -> p x = true) -> (l.filter q).length <= (l.filter p).length
 | [], _ => Nat.le_refl _
 | x :: r, h => by
  have ih := filter_le' p q r (fun y hy => h y (List.mem_cons_of_mem _ hy)); have h0 := h x (List.mem_cons_self ..); cases hq : q x <;> cases hp : p x <;> simp [hq, hp] at h0 ⊢ <;> omega
theorem filter_lt' {α : Type} (p q : α -> Bool) (i : α) (hp : p i = true) (hq : q i = false) : ∀ l : List α, (∀ x ∈ l, q x = true -> p x = true) -> i ∈ l -> (l.filter q).length < (l.filter p).length
 | [], _, hi => by cases hi
 | x :: r, h, hi => by
  have h0 := h x (List.mem_cons_self ..); rcases List.mem_cons.1 hi with e | hi
  ·subst e; have ih := filter_le' p q r (fun y hy => h y (List.mem_cons_of_mem _ hy)); simp [hp, hq]; omega
  ·have ih := filter_lt' p q i hp hq r (fun y hy => h y (List.mem_cons_of_mem _ hy)) hi; cases hq2 : q x <;> cases hp2 : p x <;> simp [hq2, hp2] at h0 ⊢ <;> omega
def toCome (ops : Array Oper) (listed : Array Bool) : Nat := ((List.range ops.size).filter fun i => !listed.getD i true).length
section
variable {P : Program} {ops : Array Oper} {Q : Exit -> Act -> World -> Prop} {md : Region.Mode}
theorem ready_mem {listed : Array Bool} {i : Nat} (h : i ∈ Region.ready md ops listed) : i ∈ List.range ops.size /\ listed.getD i true = false := by
 unfold Region.ready at h; have := List.mem_filter.1 h; refine ⟨this.1, ?_⟩; have h2 := this.2; cases hl : listed.getD i true <;> simp [hl] at h2 ⊢
theorem ready_spec {listed : Array Bool} {i : Nat} (h : i ∈ Region.ready md ops listed) : i < ops.size /\ listed.getD i true = false /\ ∀ o, ops[i]? = some o -> ∀ e ∈ o.after.toList, Region.binds md e = true -> listed.getD e.on false = true := by
 obtain ⟨h1, h2⟩ := ready_mem h; refine ⟨List.mem_range.1 h1, h2, fun o ho e he hb => ?_⟩; unfold Region.ready at h; have h3 := (List.mem_filter.1 h).2; rw [ho] at h3; simp only [Option.map_some, Option.getD_some, Bool.and_eq_true] at h3; have h4 := (Array.all_eq_true_iff_forall_mem.1 h3.2) e (Array.mem_toList_iff.1 he); simpa [hb] using h4
theorem wpAny_inv {J : Array Bool -> Act -> World -> Prop}
  (hstep : ∀ listed a w i, J listed a w -> i ∈ Region.ready md ops listed -> wpOp P ops Q i (J (listed.setIfInBounds i true)) a w)
  (hdone : ∀ listed a w, J listed a w -> Region.ready md ops listed = [] -> Q .normal a w) :
  ∀ (fuel : Nat) (listed : Array Bool) (a : Act) (w : World), J listed a w -> toCome ops listed <= fuel -> wpAny P md ops Q fuel listed a w
 | 0, listed, a, w, hJ, hf => by
  have hr : Region.ready md ops listed = [] := by
   refine List.eq_nil_iff_forall_not_mem.2 fun i hi => ?_
   obtain ⟨h1, h2⟩ := ready_mem hi; have : i ∈ (List.range ops.size).filter fun i => !listed.getD i true := List.mem_filter.2 ⟨h1, by simp [h2]⟩
   have hp := List.length_pos_of_mem this; unfold toCome at hf; omega
  exact ⟨hr, hdone listed a w hJ hr⟩
 | fuel + 1, listed, a, w, hJ, hf => by
  refine ⟨hdone listed a w hJ, fun i hi => wpOp_mono (fun a' w' h' => wpAny_inv hstep hdone fuel _ a' w' h' ?_) (hstep listed a w i hJ hi)⟩; obtain ⟨h1, h2⟩ := ready_mem hi; have hlt : i < listed.size := by
   rcases Nat.lt_or_ge i listed.size with h | h
   ·exact h
   ·rw [Array.getD_eq_getD_getElem?, Array.getElem?_eq_none h] at h2; cases h2
  have := filter_lt' (fun i => !listed.getD i true) (fun j => !(listed.setIfInBounds i true).getD j true) i (by simp [h2]) (by simp [hlt]) (List.range ops.size)
   (fun x _ hx => by
    by_cases e : i = x
    ·subst e; simp [hlt] at hx
    ·simpa [Array.getD_eq_getD_getElem?, Array.getElem?_setIfInBounds_ne e] using hx) h1
  unfold toCome at hf ⊢; omega
def opPost (Q : Exit -> Act -> World -> Prop) (K : Act -> World -> Prop) : Exit -> Act -> World -> Prop
 | .normal, a, w => K a w
 | e, a, w => Q e a w
theorem letsOut_opPost {K : Act -> World -> Prop} (h : LetsOut (opPost Q K)) : LetsOut Q := h
theorem wp_opPost {o : Oper} {a : Act} {w : World} {K : Act -> World -> Prop} (hh : o.wp P a w K (opPost Q K)) : o.wp P a w K Q := by
 unfold Oper.wp at *; generalize (execOp a.eval o).run P w = r at *; cases r with
 | ok n w' =>
  cases n <;> simp only [Oper.upon] at hh ⊢ <;>
   first
    | exact hh
    | exact Calls.mono hh (fun e w'' he => by cases e <;> first | exact he | exact letsOut_opPost he)
    | exact Rows.mono hh (fun _ _ he => he)
 | halt x w' => cases x <;> simp only [Oper.upon] at hh ⊢ <;> exact hh
theorem wpOp_of_list {o : Oper} {i : Nat} {a : Act} {w : World} {K : Act -> World -> Prop} (ho : ops[i]? = some o) (h : wpList P ops (opPost Q K) [o] a w) : wpOp P ops Q i K a w := by
 unfold wpOp; rw [ho]; unfold wpList at h; split at h
 ·rename_i hw
  simp only [hw, if_true]; exact h.imp (fun h => wp_opPost h) (fun h => ⟨h.1, letsOut_opPost h.2⟩)
 ·rename_i hw
  simp only [hw]; exact h
theorem wpOp_of_list_any {o : Oper} {i : Nat} {a : Act} {w : World} {K : Act -> World -> Prop} (ho : ops[i]? = some o) (h : ∀ QQ : Exit -> Act -> World -> Prop, (∀ a w, K a w -> QQ .normal a w) -> wpList P ops QQ [o] a w) : wpOp P ops Q i K a w :=
 wpOp_of_list ho (h _ (fun _ _ h => h))
theorem wp_region_inv {id : Nat} {a : Act} {w : World} (hm : P.follows .mixedOrders = true) (J : Array Bool -> Act -> World -> Prop)
  (h0 : J (Array.replicate ops.size false) a { w with drawn := w.drawn + 1 })
  (hstep : ∀ listed a w i, J listed a w -> i ∈ Region.ready .any ops listed -> wpOp P ops Q i (J (listed.setIfInBounds i true)) a w)
  (hdone : ∀ listed a w, J listed a w -> Region.ready .any ops listed = [] -> Q .normal a w) : (Code.region id ops true).wp P Q a w :=
 wp_region_any hm (wpAny_inv hstep hdone _ _ _ _ h0 (by
  unfold toCome; refine Nat.le_trans (List.length_filter_le _ _) ?_; simp))
end
end Go.Proofs.YtageielcdebjlaaGreatDoor
-- Cond
namespace Go.Proofs.YtageielcdebjlaaGreatDoor
open Go.RowKit
def aheadB (ops : Array Oper) : Bool := (List.range ops.size).all fun i => ((ops[i]?).map (·.after.toList.all fun e => !Region.binds .any e || decide (e.on < i))).getD true
def needsB (ops : Array Oper) : Nat -> Nat -> Nat -> Bool
 | 0, _, _ => false
 | f + 1, i, k => ((ops[i]?).map fun o => (o.after.toList.any fun e => Region.binds .any e && e.on == k) || (o.after.toList.any fun e => Region.binds .any e && needsB ops f e.on k)).getD false
def tailB (ops : Array Oper) (n : Nat) : Bool := (List.range (ops.size - n)).all fun j => (List.range (n + j)).all fun k => needsB ops ops.size (n + j) k
section
variable {P : Program} {ops : Array Oper} {Q : Exit -> Act -> World -> Prop} {md : Region.Mode}
theorem ready_nil {listed : Array Bool} (h : Region.ready md ops listed = []) (i : Nat) (hi : i < ops.size)
  (he : ∀ o, ops[i]? = some o -> ∀ e ∈ o.after.toList, Region.binds md e = true -> listed.getD e.on false = true) : listed.getD i true = true := by
 cases hl : listed.getD i true with
 | true => rfl
 | false =>
  exfalso; have hm : i ∈ Region.ready md ops listed := by
   unfold Region.ready; refine List.mem_filter.2 ⟨List.mem_range.2 hi, ?_⟩; have ho : ops[i]? = some ops[i] := Array.getElem?_eq_getElem hi; rw [ho]; simp only [Option.map_some, Option.getD_some, Bool.and_eq_true, hl, Bool.not_false, true_and]; refine Array.all_eq_true_iff_forall_mem.2 fun e hh => ?_
   cases hb : Region.binds md e with
   | false => simp
   | true => rw [he _ ho e (Array.mem_toList_iff.2 hh) hb]; simp
  rw [h] at hm; cases hm
theorem all_listed {listed : Array Bool} (h : Region.ready .any ops listed = []) (hs : listed.size = ops.size) (hw : aheadB ops = true) : ∀ i, i < ops.size -> listed.getD i true = true := by
 intro i; induction i using Nat.strongRecOn with
 | _ i ih =>
  intro hi; refine ready_nil h i hi fun o ho e hh hb => ?_
  have h1 := List.all_eq_true.1 hw i (List.mem_range.2 hi); rw [ho] at h1; simp only [Option.map_some, Option.getD_some] at h1; have h2 := List.all_eq_true.1 h1 e hh; rw [hb] at h2; have h2 := of_decide_eq_true (by simpa using h2); have h3 := ih e.on h2 (by omega); have h4 : e.on < listed.size := by omega
  simp only [Array.getD_eq_getD_getElem?, Array.getElem?_eq_getElem h4, Option.getD_some] at h3 ⊢; exact h3
def closedL (ops : Array Oper) (listed : Array Bool) : Prop := ∀ i, i < ops.size -> listed.getD i false = true -> ∀ o, ops[i]? = some o -> ∀ e ∈ o.after.toList, Region.binds .any e = true -> listed.getD e.on false = true
theorem needs_listed {listed : Array Bool} (hc : closedL ops listed) (hw : aheadB ops = true) : ∀ (f i k : Nat), i < ops.size -> needsB ops f i k = true ->
  (∀ o, ops[i]? = some o -> ∀ e ∈ o.after.toList, Region.binds .any e = true -> listed.getD e.on false = true) -> listed.getD k false = true
 | 0, _, _, _, h, _ => by cases h
 | f + 1, i, k, hi, h, he => by
  have ho : ops[i]? = some ops[i] := Array.getElem?_eq_getElem hi; unfold needsB at h; rw [ho] at h; simp only [Option.map_some, Option.getD_some, Bool.or_eq_true] at h; rcases h with h | h
  ·obtain ⟨e, h1, h2⟩ := List.any_eq_true.1 h; rw [Bool.and_eq_true] at h2; have := he _ ho e h1 h2.1; rwa [beq_iff_eq.1 h2.2] at this
  ·obtain ⟨e, h1, h2⟩ := List.any_eq_true.1 h; rw [Bool.and_eq_true] at h2; have h3 := he _ ho e h1 h2.1; have h4 := List.all_eq_true.1 hw i (List.mem_range.2 hi); rw [ho] at h4; simp only [Option.map_some, Option.getD_some] at h4; have h5 := List.all_eq_true.1 h4 e h1; rw [h2.1] at h5; have h5 := of_decide_eq_true (by simpa using h5); exact needs_listed hc hw f e.on k (by omega) h2.2 (hc e.on (by omega) h3)
theorem tail_needs {n : Nat} (hl : tailB ops n = true) {m k : Nat} (hn : n <= m) (hm : m < ops.size) (hk : k < m) : needsB ops ops.size m k = true := by
 have h1 := List.all_eq_true.1 hl (m - n) (List.mem_range.2 (by omega)); rw [show n + (m - n) = m by omega] at h1; exact List.all_eq_true.1 h1 k (List.mem_range.2 hk)
theorem getD_any {listed : Array Bool} {k : Nat} {c : Bool} (d : Bool) (hk : k < listed.size) (h : listed.getD k c = true) : listed.getD k d = true := by
 simp only [Array.getD_eq_getD_getElem?, Array.getElem?_eq_getElem hk, Option.getD_some] at h ⊢; exact h
theorem getD_set {listed : Array Bool} {i k : Nat} (c : Bool) (hi : i < listed.size) : (listed.setIfInBounds i true).getD k c = if i = k then true else listed.getD k c := by
 simp only [Array.getD_eq_getD_getElem?, Array.getElem?_setIfInBounds]; split
 ·rename_i h; subst h; simp
 ·rfl
theorem closed_set {listed : Array Bool} {i : Nat} (hs : listed.size = ops.size) (hc : closedL ops listed) (hi : i < ops.size)
  (he : ∀ o, ops[i]? = some o -> ∀ e ∈ o.after.toList, Region.binds .any e = true -> listed.getD e.on false = true) : closedL ops (listed.setIfInBounds i true) := by
 intro j hj hl o ho e h1 h2; rw [getD_set _ (by omega)] at hl ⊢; split
 ·rfl
 ·split at hl
  ·rename_i h; subst h; exact he o ho e h1 h2
  ·exact hc j hj hl o ho e h1 h2
theorem tail_any {l : List Oper} {a : Act} {w : World} (D : Act -> World -> Prop) (hD : ∀ a w, D a w -> Q .normal a w) (h : ∀ QQ : Exit -> Act -> World -> Prop, (∀ a w, D a w -> QQ .normal a w) -> wpList P ops QQ l a w) : wpList P ops Q l a w := h Q hD
theorem wp_region_tail {id : Nat} {a : Act} {w : World} (n : Nat) (hm : P.follows .mixedOrders = true) (J : Array Bool -> Act -> World -> Prop)
  (hn : n < ops.size) (hw : aheadB ops = true) (hl : tailB ops n = true)
  (h0 : J (Array.replicate ops.size false) a { w with drawn := w.drawn + 1 })
  (hJ : ∀ listed a w, J listed a w -> listed.size = ops.size /\ ∀ k, n <= k -> k < ops.size -> listed.getD k true = false)
  (hstep : ∀ listed a w i, J listed a w -> i < n -> listed.getD i true = false -> (∀ o, ops[i]? = some o -> ∀ e ∈ o.after.toList, Region.binds .any e = true -> listed.getD e.on false = true) -> wpOp P ops Q i (J (listed.setIfInBounds i true)) a w)
  (htail : ∀ listed a w, J listed a w -> (∀ i, i < n -> listed.getD i true = true) -> wpList P ops Q (ops.toList.drop n) a w) : (Code.region id ops true).wp P Q a w := by
 have hrun : ∀ listed a w, J listed a w -> (∀ i, i < n -> listed.getD i true = true) -> wpOps P ops Q (List.range' n (ops.size - n)) a w := by
  intro listed a w h h2; have := wpOps_eq_wpList (P := P) (ops := ops) (Q := Q) (ops.toList.drop n) n (by intro j; simp); rw [List.length_drop, Array.length_toList] at this; rw [this]; exact htail listed a w h h2
 refine wp_region_inv hm (fun listed a w => closedL ops listed /\ listed.size = ops.size /\ (J listed a w ∨ ∃ m, n <= m /\ m <= ops.size /\ (∀ k, k < ops.size -> listed.getD k true = decide (k < m)) /\ wpOps P ops Q (List.range' m (ops.size - m)) a w)) ?_ ?_ ?_
 ·refine ⟨?_, by simp, .inl h0⟩; intro i hi hl2; exfalso; rw [Array.getD_eq_getD_getElem?, Array.getElem?_eq_getElem (by simpa using hi)] at hl2; simp at hl2
 ·rintro listed a x i ⟨hc, hs, h⟩ hi; obtain ⟨h1, h2, h3⟩ := ready_spec hi; have hc' := closed_set hs hc h1 h3; have hs' : (listed.setIfInBounds i true).size = ops.size := by simpa using hs
  -- an operation of the tail comes up behind all ahead of it
  have hbehind : n <= i -> ∀ k, k < i -> listed.getD k true = true := fun hge k hk => getD_any true (by omega) (needs_listed hc hw ops.size i k h1 (tail_needs hl hge h1 hk) h3)
  have hone : ∀ m, n <= m -> m < ops.size -> (∀ k, k < ops.size -> listed.getD k true = decide (k < m)) -> i = m := by
   intro m hm1 hm2 hlst; have h4 := hlst i h1; rw [h2] at h4; have h5 : m <= i := by have := (decide_eq_false_iff_not.1 h4.symm); omega
   rcases Nat.lt_or_ge m i with h6 | h6
   ·have h7 := hbehind (by omega) m h6; rw [hlst m hm2] at h7; exact absurd (of_decide_eq_true h7) (Nat.lt_irrefl _)
   ·omega
  have hnext : ∀ m, i = m -> m < ops.size -> (∀ k, k < ops.size -> listed.getD k true = decide (k < m)) -> ∀ k, k < ops.size -> (listed.setIfInBounds i true).getD k true = decide (k < m + 1) := by
   intro m him hm2 hlst k hk; rw [getD_set _ (by omega)]; split
   ·rename_i h; subst h; subst him; simp
   ·rename_i hne
    rw [hlst k hk]; have : (k < m) ↔ (k < m + 1) := by omega
    simp [this]
  rcases h with h | ⟨m, hm1, hm2, hlst, hrest⟩
  ·rcases Nat.lt_or_ge i n with hlt | hge
   ·exact wpOp_mono (fun _ _ h => ⟨hc', hs', .inl h⟩) (hstep listed a x i h hlt h2 h3)
   ·have hlst : ∀ k, k < ops.size -> listed.getD k true = decide (k < n) := by
     intro k hk; rcases Nat.lt_or_ge k n with hk2 | hk2
     ·rw [hbehind hge k (by omega)]; simp [hk2]
     ·rw [(hJ _ _ _ h).2 k hk2 hk]; simp; omega
    have hin := hone n (Nat.le_refl _) hn hlst; have hr := hrun listed a x h (fun k hk => by rw [hlst k (by omega)]; simp [hk]); rw [show ops.size - n = (ops.size - (n + 1)) + 1 by omega, List.range'_succ, wpOps_cons] at hr; rw [hin] at hnext hc' hs' ⊢; exact wpOp_mono (fun _ _ h => ⟨hc', hs', .inr ⟨n + 1, by omega, by omega, hnext n rfl hn hlst, h⟩⟩) hr
  ·have hm3 : m < ops.size := by
    rcases Nat.lt_or_ge m ops.size with h | h
    ·exact h
    ·have := hlst i h1; rw [h2] at this; have := decide_eq_false_iff_not.1 this.symm; omega
   have him := hone m hm1 hm3 hlst; rw [show ops.size - m = (ops.size - (m + 1)) + 1 by omega, List.range'_succ, wpOps_cons] at hrest; rw [him] at hnext hc' hs' ⊢; exact wpOp_mono (fun _ _ h => ⟨hc', hs', .inr ⟨m + 1, by omega, by omega, hnext m rfl hm3 hlst, h⟩⟩) hrest
 ·rintro listed a x ⟨-, hs, h⟩ hr; have hall := all_listed hr hs hw; rcases h with h | ⟨m, hm1, hm2, hlst, hrest⟩
  ·have h1 := (hJ _ _ _ h).2 n (Nat.le_refl _) hn; rw [hall n hn] at h1; cases h1
  ·have hm3 : m = ops.size := by
    rcases Nat.lt_or_ge m ops.size with h | h
    ·have h1 := hall m h; rw [hlst m h] at h1; exact absurd (of_decide_eq_true h1) (Nat.lt_irrefl _)
    ·omega
   subst hm3; simpa [wpOps] using hrest
end
def Kept (B : Nat) (w w' : World) : Prop := ∀ g cs ty, B <= g -> Blk g cs ty w -> Blk g cs ty w'
theorem Kept.alloc (B : Nat) (w : World) (o : Obj) : Kept B w (w.alloc o) := fun _ _ _ _ h => h.alloc o
theorem Kept.only {b B : Nat} {w w' : World} (h : Only b w w') (hb : b < B) : Kept B w w' := fun _ _ _ hg hk => hk.only h (by omega)
theorem Kept.but {b B : Nat} {w w' : World} (h : But b w.heap.size w w') (hb : b < B) : Kept B w w' := fun _ _ _ hg hk => hk.but h (by omega)
structure Sofar (b : Nat) (w w' : World) : Prop where
 but : But b w.heap.size w w'
 dice : Dice b w'
theorem dice_draw {b : Nat} {w : World} (h : Dice b w) : Dice b w.drew := h.kept h.lt (below_drw (Below.refl _ w))
theorem but_draw {b B : Nat} {w w1 : World} (h : But b B w w1) : But b B w w1.drew := h.trans (But.of_below (below_drw (Below.refl _ w1)))
theorem Sofar.start {b : Nat} {w : World} (h : Dice b w) : Sofar b w w.drew := ⟨but_draw (But.refl b _ w), dice_draw h⟩
theorem Sofar.alloc {b : Nat} {w w' : World} (h : Sofar b w w') (o : Obj) : Sofar b w (w'.alloc o) := ⟨but_alloc h.but h.but.size o, dice_alloc h.dice o⟩
theorem Sofar.only {b : Nat} {w w' w'' : World} (h : Sofar b w w') (hd : Dice b w'') (ho : Only b w' w'') : Sofar b w w'' := ⟨but_only h.but ho, hd⟩
theorem Sofar.then {b : Nat} {w w' w'' : World} (h : Sofar b w w') (hd : Dice b w'') (ho : But b w'.heap.size w' w'') : Sofar b w w'' := ⟨but_then h.but ho h.but.size, hd⟩
theorem Sofar.set {b g : Nat} {w w' : World} (h : Sofar b w w') (hg : w.heap.size <= g) (hb : b < g) (i : Nat) (u : Value) : Sofar b w (w'.setCell ⟨g, i, none⟩ u) := ⟨but_set h.but hg, dice_set h.dice hb⟩
theorem Sofar.blk {b g : Nat} {w w' : World} {cs : Array Value} {ty : TypeId} (h : Sofar b w w') (hk : Blk g cs ty w) (hg : g ≠ b) : Blk g cs ty w' := hk.but h.but hg
theorem Blk.new' {g : Nat} (w : World) (cs : Array Value) (ty : TypeId) (h : g = w.heap.size) : Blk g cs ty (w.alloc (.cells cs ty)) := by subst h; exact Blk.new w cs ty
theorem row_kept {w w' : World} {B k : Nat} {e : TypeId} {v : Value} {n : Nat} {xs : List Value} (h : w.ownsRow B e k v n xs) (hk : Kept B w w') : w'.ownsRow B e k v n xs := by
 refine ⟨h.1, ?_⟩; rcases h.2 with h1 | ⟨g, cap, cur, r1, r2, r3, r4⟩
 ·exact .inl h1
 ·exact .inr ⟨g, cap, cur, r1, r2, hk g _ _ r2 r3, r4⟩
theorem evCells_one (e : Ev) (p p' : Option Addr) (n n' c c' : Nat) : ∀ u ∈ (evCells e (.slice p n c) (.slice p' n' c')).toList, u.oneCell' = true := by
 intro u hu; simp only [evCells, List.mem_cons, List.not_mem_nil, or_false] at hu; rcases hu with rfl | rfl | rfl | rfl | rfl | rfl | rfl | rfl | rfl | rfl | rfl | rfl | rfl <;> rfl
theorem infoEv : (Tryz.prog.info? 82).map (fun i => (i.zero, i.size, i.bytes)) = some (some (.agg #[.string ⟨#[]⟩, .int .i64 0, .bool false, .int .i64 0, .int .i64 0, .int .i64 0, .int .i64 0, .slice none 0 0, .slice none 0 0, .int .i64 0, .int .i64 0, .string ⟨#[]⟩, .string ⟨#[]⟩]), 13, 160) := by kernel_rfl
theorem one_byte_blk {w : World} {g : Nat} {c : UInt8} (h : Blk g #[.int .u8 c.toNat] 5 w) : (convert 76 9 (.slice (some ⟨g, 0, none⟩) 1 1)).run Tryz.prog w = .ok (.string ⟨#[c]⟩) w :=
 string_of_row (B := 0) (l := [c]) ⟨rfl, .inr ⟨g, 1, _, rfl, Nat.zero_le _, h, Nat.le_refl _, by decide, rfl, rfl⟩⟩
theorem byte_of (m : Int) (h0 : 0 <= m) (h1 : m < 256) : m = ((UInt8.ofNat m.toNat).toNat : Int) := by
 rw [UInt8.toNat_ofNat_of_lt' (show m.toNat < UInt8.size by show m.toNat < 256; omega)]; omega
theorem blk_cells {w : World} {g : Nat} {cs : Array Value} {ty : TypeId} (h : Blk g cs ty w) (j : Nat) (u : Value) (hj : cs.toList[j]? = some u) : w.cell? ((⟨g, 0, none⟩ : Addr).add j) = some u := by
 rw [Addr.add_lit, h.cell]; simpa using hj
end Go.Proofs.YtageielcdebjlaaGreatDoor
