/- Numbers as decimal texts: strconv.Itoa, both digits, the reference's digits and decimal at the widths that are used; the text of a date. -/
import Derived.Test.YtageielcdebjlaaGreatDoorPk7
import Derived.Test.YtageielcdebjlaaGreatDoorUidAll
import Derived.Lib.AppendIntMem
namespace Tt
open Go.Lib (decDigits decDigits_one decDigits_two)
def d2 (n : Nat) : List UInt8 := [UInt8.ofNat (48 + n / 10), UInt8.ofNat (48 + n % 10)]
def d4 (n : Nat) : List UInt8 := [UInt8.ofNat (48 + n / 1000), UInt8.ofNat (48 + n / 100 % 10), UInt8.ofNat (48 + n / 10 % 10), UInt8.ofNat (48 + n % 10)]
/-- A number with so many digits at least. -/
def padD (n k : Nat) : List UInt8 := List.replicate (k - (decDigits n).length) 48 ++ decDigits n
theorem dec_step {n : Nat} (h : ¬ n < 10) : decDigits n = decDigits (n / 10) ++ [UInt8.ofNat (48 + n % 10)] := by rw [decDigits.eq_def n, dif_neg h]
theorem dec_four {n : Nat} (h0 : 1000 ≤ n) (h1 : n < 10000) : decDigits n = d4 n := by
  rw [dec_step (by omega), dec_step (n := n / 10) (by omega), decDigits_two (i := n / 10 / 10) (by omega) (by omega)]
  unfold d4
  rw [show n / 10 / 10 / 10 = n / 1000 by omega, show n / 10 / 10 = n / 100 by omega]
  rfl
theorem padD_two {n : Nat} (h : n < 100) : padD n 2 = d2 n := by
  unfold padD d2
  by_cases h1 : n < 10
  · rw [decDigits_one h1, show n / 10 = 0 by omega, show n % 10 = n by omega]; rfl
  · rw [decDigits_two h1 h]; rfl
theorem padD_four {n : Nat} (h0 : 1000 ≤ n) (h1 : n < 10000) : padD n 4 = d4 n := by
  unfold padD
  rw [dec_four h0 h1]; rfl
/-- The last digits of a number, so many. -/
def digR (n : Nat) : Nat → List UInt8 → List UInt8
  | 0, acc => acc
  | k + 1, acc => digR (n / 10) k (UInt8.ofNat (48 + n % 10) :: acc)
theorem digR_one {n : Nat} (h : n < 10) : digR n 1 [] = [UInt8.ofNat (48 + n)] := by show [UInt8.ofNat (48 + n % 10)] = _; rw [show n % 10 = n by omega]
theorem digR_two {n : Nat} (h : n < 100) : digR n 2 [] = d2 n := by
  show [UInt8.ofNat (48 + n / 10 % 10), UInt8.ofNat (48 + n % 10)] = _
  rw [show n / 10 % 10 = n / 10 by omega]; rfl
theorem digR_four {n : Nat} (h : n < 10000) : digR n 4 [] = d4 n := by
  show [UInt8.ofNat (48 + n / 10 / 10 / 10 % 10), UInt8.ofNat (48 + n / 10 / 10 % 10), UInt8.ofNat (48 + n / 10 % 10), UInt8.ofNat (48 + n % 10)] = _
  unfold d4
  rw [show n / 10 / 10 / 10 % 10 = n / 1000 by omega, show n / 10 / 10 % 10 = n / 100 % 10 by omega]
theorem decim_two {n : Nat} (h : n < 100) : decim n 2 [] = d2 n := by
  rw [decim_step n 2 [] (by omega), decim_one, decDigits_one (by omega)]; rfl
theorem decim_1 (n : Nat) : decim n 1 [] = decDigits n := by rw [decim_one, List.append_nil]
theorem dec_len : ∀ (k n : Nat), n < 10 ^ (k + 1) → (decDigits n).length ≤ k + 1
  | 0, n, h => by rw [decDigits_one (by simpa using h)]; simp
  | k + 1, n, h => by
    by_cases h1 : n < 10
    · rw [decDigits_one h1]; simp
    · rw [dec_step h1, List.length_append]
      have := dec_len k (n / 10) (by rw [Nat.div_lt_iff_lt_mul (by omega)]; rw [Nat.pow_succ] at h; exact h)
      simp; omega
/-- The text of a day. -/
def dateL (day : Int) : List UInt8 := d4 (yOf day).toNat ++ d2 (mOf day).toNat ++ d2 (dOf day).toNat
end Tt
namespace Go.Proofs.YtageielcdebjlaaGreatDoor
open Go.RowKit

/-- The library's table of powers as it is laid. -/
def Pow (w : World) : Prop := ∃ t fr, w.heap[6]? = some (.cells (Lib.pow10Tab.map fun z => Value.int .u64 z).toArray t fr)
theorem Pow.below {B : Nat} {w w' : World} (h : Pow w) (hB : 6 < B) (hb : Below B w w') : Pow w' := by
  obtain ⟨t, fr, h⟩ := h; exact ⟨t, fr, (hb.block 6 hB).trans h⟩
theorem itoa136 (n : Int) (w : World) (hP : Pow w) (h0 : 0 ≤ n) (h1 : n ≤ 4611686018427387903) : Calls Tryz.prog 136 #[.int .i64 n] w fun e w' => e = .returned (.string ⟨(Lib.decDigits n.toNat).toArray⟩) ∧ Below w.heap.size w w' := by
  refine (Any.strconv_Itoa Tryz.laysM171 n (by omega) (by omega) w ?_).mono ?_
  · obtain ⟨t, fr, h⟩ := hP; unfold Lib.TabIs World.var?
    generalize hn : Program.globalNamed Tryz.prog _ = o
    have ho : o = some 6 := hn.symm.trans (by kernel_rfl)
    subst ho; simp [h]
  · rintro e w' ⟨rfl, k, os, rfl⟩; refine ⟨ret_str ?_, Lib.below_grow _ _ (Nat.le_refl _) _ _⟩
    unfold Lib.itoa
    rw [if_neg (by omega)]
theorem rep_one (c : UInt8) (k : Nat) : Lib.repeatL [c] k = List.replicate k c := by
  induction k with
  | zero => rfl
  | succ k ih => rw [Lib.repeatL, ih]; rfl
set_option maxRecDepth 100000 in
theorem digits310 (n : Int) (k : Nat) (w : World) (hP : Pow w) (h0 : 0 ≤ n) (h1 : n ≤ 99999) (hk : k ≤ 10) : Calls Tryz.prog 310 #[.int .i64 n, .int .i64 k] w fun e w' => e = .returned (.string ⟨(Tt.padD n.toNat k).toArray⟩) ∧ Below w.heap.size w w' := by
  have HP := Lib.hid hP; clear hP; have hl := Tt.dec_len 4 n.toNat (by omega)
  have HR := Lib.hid (show Tt.padD n.toNat k = List.replicate (k - (Lib.decDigits n.toNat).length) 48 ++ Lib.decDigits n.toNat from rfl)
  go_enter Tryz.func310, Tryz.ntmps310
  go_wp2_with fail
  refine (itoa136 n w HP.out h0 (by omega)).mono ?_
  rintro e w1 ⟨rfl, hb1⟩; generalize Lib.decDigits n.toNat = L at hl HR ⊢
  have HB1 := Lib.hid hb1; clear hb1; have hw : IntKind.i64.wrap ((k : Int) - (L.length : Int)) = (k : Int) - (L.length : Int) := by rw [IntKind.wrap_i64]; omega
  have hm : max ((k : Int) - (L.length : Int)) 0 = ((k - L.length : Nat) : Int) := by omega
  go_wp2_with fail
  refine (Tryz.strings_Repeat ⟨#[48]⟩ (k - L.length) w1 (by omega) (by show 1 * _ ≤ _; omega)).mono ?_
  rintro e w2 ⟨rfl, hb2⟩; have HB2 := Lib.hid (HB1.out.trans (hb2.mono HB1.out.size))
  clear hb2; have HX := Lib.hid (show Lib.repeatL (⟨#[48]⟩ : ByteArray).data.toList (k - L.length) = List.replicate (k - L.length) 48 from rep_one _ _)
  rw [HX.out]
  have hsz : (ByteArray.mk (List.replicate (k - L.length) (48 : UInt8)).toArray).size ≤ 10 := by rw [Lib.size_eq]; simp; omega
  have hsz2 : (ByteArray.mk L.toArray).size ≤ 5 := by rw [Lib.size_eq]; simpa using hl
  go_wp2_with fail
  go_ret; exact ⟨by rw [HR.out]; congr 2, HB2.out⟩
set_option maxRecDepth 100000 in
theorem digits309 (n : Int) (k : Nat) (w : World) (hP : Pow w) (h0 : 0 ≤ n) (h1 : n ≤ 99999) (hk : k ≤ 10) : Calls Tryz.prog 309 #[.int .i64 n, .int .i64 k] w fun e w' => e = .returned (.string ⟨(Tt.padD n.toNat k).toArray⟩) ∧ Below w.heap.size w w' := by
  have HP := Lib.hid hP; clear hP; have hl := Tt.dec_len 4 n.toNat (by omega)
  have HR := Lib.hid (show Tt.padD n.toNat k = List.replicate (k - (Lib.decDigits n.toNat).length) 48 ++ Lib.decDigits n.toNat from rfl)
  go_enter Tryz.func309, Tryz.ntmps309
  go_wp2_with fail
  refine (itoa136 n w HP.out h0 (by omega)).mono ?_
  rintro e w1 ⟨rfl, hb1⟩; generalize Lib.decDigits n.toNat = L at hl HR ⊢
  have HB1 := Lib.hid hb1; clear hb1; have hw : IntKind.i64.wrap ((k : Int) - (L.length : Int)) = (k : Int) - (L.length : Int) := by rw [IntKind.wrap_i64]; omega
  have hm : max ((k : Int) - (L.length : Int)) 0 = ((k - L.length : Nat) : Int) := by omega
  go_wp2_with fail
  refine (Tryz.strings_Repeat ⟨#[48]⟩ (k - L.length) w1 (by omega) (by show 1 * _ ≤ _; omega)).mono ?_
  rintro e w2 ⟨rfl, hb2⟩; have HB2 := Lib.hid (HB1.out.trans (hb2.mono HB1.out.size))
  clear hb2; have HX := Lib.hid (show Lib.repeatL (⟨#[48]⟩ : ByteArray).data.toList (k - L.length) = List.replicate (k - L.length) 48 from rep_one _ _)
  rw [HX.out]
  have hsz : (ByteArray.mk (List.replicate (k - L.length) (48 : UInt8)).toArray).size ≤ 10 := by rw [Lib.size_eq]; simp; omega
  have hsz2 : (ByteArray.mk L.toArray).size ≤ 5 := by rw [Lib.size_eq]; simpa using hl
  go_wp2_with fail
  go_ret; exact ⟨by rw [HR.out]; congr 2, HB2.out⟩
set_option maxRecDepth 100000 in
theorem digits259 (n : Int) (m : Nat) (w : World) (h0 : 0 ≤ n) (h1 : n ≤ 4611686018427387903) (hm : m ≤ 1000) :
    Calls Tryz.prog 259 #[.int .i64 n, .int .i64 m] w fun e w' => e = .returned (.string ⟨(Tt.digR n.toNat m []).toArray⟩) ∧ Below w.heap.size w w' := by
  go_enter Tryz.func259, Tryz.ntmps259
  go_wp2_with fail
  go_loopw [0, 1, 5] (fun nv mv sv wr => ∃ (k j : Nat) (acc : List UInt8), nv = .int .i64 k ∧ mv = .int .i64 j ∧ sv = .string ⟨acc.toArray⟩ ∧ j ≤ 1000 ∧ acc.length + j ≤ 1000 ∧ (k : Int) ≤ 4611686018427387903 ∧ Below w.heap.size w wr ∧ Hid (Tt.digR n.toNat m [] = Tt.digR k j acc)) (fun _ mv _ _ => (intOf mv).toNat)
  case atStart => exact ⟨n.toNat, m, [], by go_num, rfl, rfl, by omega, by simp; omega, by omega, Below.refl _ _, rfl⟩
  case round =>
    obtain ⟨k, j, acc, rfl, rfl, rfl, hj, hl, hk, hbe, HD⟩ := hrel; cases j with
    | zero =>
      have HE := Lib.hid (show Tt.digR n.toNat m [] = acc from HD.out)
      go_wp2_with fail
      go_ret; exact ⟨ret_str HE.out.symm, hbe⟩
    | succ j =>
      obtain ⟨c, hc⟩ : ∃ c, c = UInt8.ofNat (48 + k % 10) := ⟨_, rfl⟩
      have HE := Lib.hid (show Tt.digR n.toNat m [] = Tt.digR (k / 10) j (c :: acc) from by rw [hc]; exact HD.out)
      have hcz := ofNat_digit k; rw [← hc] at hcz
      have HZ := Lib.hid hcz; clear hc hcz; have hacc := size_mk acc; have hcv := one_byte wr c _ HZ.out
      have hj1 : (0 : Int) < ((j + 1 : Nat) : Int) := by omega
      go_wp2_with fail
      go_roundw
      case rel => exact ⟨k / 10, j, c :: acc, by go_num, by go_num, by rw [str_cons], by omega, by simp; omega, by omega, hbe.alloc (by have := hbe.size; omega) _, HE.out⟩
      case measure => simp [intOf]
end Go.Proofs.YtageielcdebjlaaGreatDoor
