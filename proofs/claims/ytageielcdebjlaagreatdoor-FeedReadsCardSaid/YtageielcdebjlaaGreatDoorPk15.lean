/- The program's date (function 258) on the text of a day. Numbers written and read again. The reference's parser in plain words: numbers, times, an event line by line; and its functions begins and number. The text of the rule of a series: the reference's Format. The reference's parser: times (184). Events in a row of one's own, what they refer to in rows of its own: laid in, written over. No function of the program in sight. Condition: none. The reference's parser: a list of times (185). The program's weekdays (function 257): exact. The reference's parser of rules, in plain words; its number (263). The parser's text: exact. The library's Atoi at any text: laid at this dump. -/
import Derived.Test.YtageielcdebjlaaGreatDoorPk14
import Derived.Test.YtageielcdebjlaaGreatDoorPk5
import Derived.Test.YtageielcdebjlaaGreatDoorPk10
import Derived.BigQuiet
import Derived.Test.YtageielcdebjlaaGreatDoorProg
import Derived.WalkKit
import Derived.Lib.Hide
import Derived.Deep.QuietTactic
import Derived.Deep.RegionLaw
import Derived.Laws.CopyRow
import Derived.Laws.CopyOwn
import Derived.Laws.IdiomCopy
import Derived.Lib.AppendZerosOnto
import Derived.Lib.Overlaps
import Derived.Maps.AppendAt
import Derived.Laws.Externs
import Derived.Laws.NewBlocks
import Derived.Test.YtageielcdebjlaaGreatDoorParseAll
import Derived.Test.YtageielcdebjlaaGreatDoorPk2
import Derived.Shelf.Strconv.AtoiAll
set_option maxRecDepth 100000
set_option maxHeartbeats 40000000
namespace Tt
theorem ofNat_toNat {n : Nat} (h : n < 10) : ((UInt8.ofNat (48 + n)).toNat : Int) = 48 + n := by
 rw [UInt8.toNat_ofNat']; omega
theorem date_digit {d : Int} {y m e X : Nat} (hy : y = (yOf d).toNat) (hm : m = (mOf d).toNat) (he : e = (dOf d).toNat) (y0 : 2000 <= y) (y1 : y <= 2099) (m1 : m <= 12) (e1 : e <= 31) (hX : X = y * 10000 + m * 100 + e) {k : Nat} (hk : k < 8) :
  ∃ c, (dateL d)[k]? = some c /\ ((c.toNat : Int) = 48 + ((X / 10 ^ (7 - k) % 10 : Nat) : Int)) /\ X / 10 ^ (8 - (k + 1)) = 10 * (X / 10 ^ (8 - k)) + X / 10 ^ (7 - k) % 10 := by
 unfold dateL d4 d2; rw [<- hy, <- hm, <- he]; match k, hk with
 | 0, _ => exact ⟨_, rfl, by rw [ofNat_toNat (by omega)]; simp only [Nat.sub_zero, Nat.reducePow]; omega, by simp only [Nat.sub_zero, Nat.reduceAdd, Nat.reduceSub, Nat.reducePow]; omega⟩
 | 1, _ => exact ⟨_, rfl, by rw [ofNat_toNat (by omega)]; simp only [Nat.reduceSub, Nat.reducePow]; omega, by simp only [Nat.reduceAdd, Nat.reduceSub, Nat.reducePow]; omega⟩
 | 2, _ => exact ⟨_, rfl, by rw [ofNat_toNat (by omega)]; simp only [Nat.reduceSub, Nat.reducePow]; omega, by simp only [Nat.reduceAdd, Nat.reduceSub, Nat.reducePow]; omega⟩
 | 3, _ => exact ⟨_, rfl, by rw [ofNat_toNat (by omega)]; simp only [Nat.reduceSub, Nat.reducePow]; omega, by simp only [Nat.reduceAdd, Nat.reduceSub, Nat.reducePow]; omega⟩
 | 4, _ => exact ⟨_, rfl, by rw [ofNat_toNat (by omega)]; simp only [Nat.reduceSub, Nat.reducePow]; omega, by simp only [Nat.reduceAdd, Nat.reduceSub, Nat.reducePow]; omega⟩
 | 5, _ => exact ⟨_, rfl, by rw [ofNat_toNat (by omega)]; simp only [Nat.reduceSub, Nat.reducePow]; omega, by simp only [Nat.reduceAdd, Nat.reduceSub, Nat.reducePow]; omega⟩
 | 6, _ => exact ⟨_, rfl, by rw [ofNat_toNat (by omega)]; simp only [Nat.reduceSub, Nat.reducePow]; omega, by simp only [Nat.reduceAdd, Nat.reduceSub, Nat.reducePow]; omega⟩
 | 7, _ => exact ⟨_, rfl, by rw [ofNat_toNat (by omega)]; simp only [Nat.reduceSub, Nat.reducePow]; omega, by simp only [Nat.reduceAdd, Nat.reduceSub, Nat.reducePow]; omega⟩
end Tt
namespace Go.Proofs.YtageielcdebjlaaGreatDoor
open Go.RowKit
theorem date258 (s : ByteArray) (d : Int) (w : World) (hs : s.data.toList = Tt.dateL d) (h0 : 0 <= d) (h1 : d <= 36524) (hL : Lens w) (hw : 3 < w.heap.size) :
  Calls Tryz.prog 258 #[.string s] w fun e w' => e = .returned (.tuple #[.int .i64 d, .bool true]) /\ Below w.heap.size w w' := by
 obtain ⟨y0, y1, m0, m1, d0, d1⟩ := Tt.date_toNat h0 h1; have hdv := (Tt.date_some h0 h1).day; have zs : s.size = 8 := by rw [Lib.size_eq, hs]; rfl
 obtain ⟨cap, W, hconv, hb0, hsz, hcell⟩ := bytes_of s w; obtain ⟨y, hy⟩ : ∃ y, y = (Tt.yOf d).toNat := ⟨_, rfl⟩
 obtain ⟨m, hm⟩ : ∃ y, y = (Tt.mOf d).toNat := ⟨_, rfl⟩
 obtain ⟨q, hq⟩ : ∃ y, y = (Tt.dOf d).toNat := ⟨_, rfl⟩
 obtain ⟨X, hX⟩ : ∃ X, X = y * 10000 + m * 100 + q := ⟨_, rfl⟩
 have HDG : Hid (∀ k, k < 8 -> ∃ c : UInt8, s.data.toList[k]? = some c /\ ((c.toNat : Int) = 48 + ((X / 10 ^ (7 - k) % 10 : Nat) : Int)) /\ X / 10 ^ (8 - (k + 1)) = 10 * (X / 10 ^ (8 - k)) + X / 10 ^ (7 - k) % 10) := Lh (fun k hk => by rw [hs]; exact Tt.date_digit hy hm hq (by omega) (by omega) (by omega) (by omega) hX hk); have HDV := Lh (show Tt.dayV ((X : Int) / 10000) ((X : Int) / 100 % 100) ((X : Int) % 100) = (d, 0) from by
  rw [show (X : Int) / 10000 = Tt.yOf d by omega, show (X : Int) / 100 % 100 = Tt.mOf d by omega, show (X : Int) % 100 = Tt.dOf d by omega]; exact hdv)
 have hXb : X <= 20991231 := by omega
 have HW := Lh hb0; have HCE := Lh hcell; have HLW := Lh (hL.below hw hb0); clear hdv hs hL hy hm hq hX y0 y1 m0 m1 d0 d1 hb0 hcell; go_enter Tryz.func258, Tryz.ntmps258; go_wp2_with fail; clear hconv; go_loopw [4, 15] (fun nv iv wr => ∃ (k v : Nat), k <= 8 /\ iv = .int .i64 k /\ nv = .int .i64 v /\ v <= X /\ Hid (v = X / 10 ^ (8 - k)) /\ Hid (wr = W)) (fun _ iv _ => 8 - (intOf iv).toNat)
 case atStart => exact ⟨0, 0, Nat.zero_le _, rfl, rfl, Nat.zero_le _, Lh (by show 0 = X / 100000000; omega), Lh rfl⟩
 case round =>
  obtain ⟨k, v, hk, rfl, rfl, hv, HV, HWR⟩ := hrel; by_cases hlt : k < 8
  ·obtain ⟨c, hc, hcn, hst⟩ := HDG.out k hlt; have hcc := HCE.out k c hc; rw [<- HWR.out] at hcc; obtain ⟨n, hn⟩ : ∃ n : Int, n = c.toNat := ⟨_, rfl⟩
   rw [<- hn] at hcc hcn; have hn0 : ¬ n < 48 := by omega
   have hn1 : ¬ 57 < n := by omega
   have hn2 : 0 <= n - 48 /\ n - 48 <= 9 := by omega
   obtain ⟨v', hv'⟩ : ∃ v', v' = X / 10 ^ (8 - (k + 1)) := ⟨_, rfl⟩
   have hvv : (10 * (v : Int) + (n - 48)) = (v' : Int) := by rw [hv', hst, hcn, HV.out]; omega
   have hvX : v' <= X := by rw [hv']; exact Nat.div_le_self _ _
   have HVV := Lh hv'; have hki : (k : Int) < 8 := by omega
   clear hc hcn hst hn hv'; go_wp2_with fail; go_roundw
   case rel => exact ⟨k + 1, v', by omega, by go_num, by go_num, hvX, HVV, HWR⟩
   case measure => simp [intOf]; omega
  ·have hk8 : k = 8 := by omega
   have hvX : v = X := by rw [HV.out, hk8]; show X / 10 ^ 0 = X; omega
   have hki : ¬ (k : Int) < 8 := by omega
   have hwr := HWR.out; subst hwr; subst hvX; clear HV hv HDG HCE; go_wp2_with fail; refine (day255 _ _ _ wr HLW.out (by omega) (by omega)).mono ?_; rintro e w1 ⟨rfl, rfl⟩; rw [HDV.out]; go_wp2_with fail; go_ret2; exact ⟨rfl, HW.out⟩
end Go.Proofs.YtageielcdebjlaaGreatDoor
namespace Tt
open Go.Lib
theorem decFrom_snoc (b : UInt8) (d : Nat) (hd : digitVal b = some d) : ∀ (l : List UInt8) (acc n : Nat), decFrom acc l = some n -> decFrom acc (l ++ [b]) = some (n * 10 + d)
 | [], acc, n, h => by
  cases h; rw [List.nil_append, decFrom, hd]; rfl
 | a :: t, acc, n, h => by
  rw [List.cons_append, decFrom]; rw [decFrom] at h; cases ha : digitVal a with
  | none => rw [ha] at h; cases h
  | some e => rw [ha] at h; exact decFrom_snoc b d hd t _ n h
theorem digit_val {n : Nat} (h : n < 10) : digitVal (UInt8.ofNat (48 + n)) = some n := (show ∀ n : Nat, n < 10 -> digitVal (UInt8.ofNat (48 + n)) = some n by decide) n h
theorem decFrom_dec (n : Nat) : decFrom 0 (decDigits n) = some n := by
 by_cases h : n < 10
 ·rw [decDigits_one h, decFrom, digit_val h]; show some (0 * 10 + n) = some n
  rw [Nat.zero_mul, Nat.zero_add]
 ·rw [dec_step h, decFrom_snoc _ _ (digit_val (Nat.mod_lt n (by decide))) _ _ _ (decFrom_dec (n / 10))]; congr 1; omega
termination_by n
decreasing_by omega
theorem dec_head (n : Nat) : ∃ b r, decDigits n = b :: r /\ b ≠ 45 /\ b ≠ 43 := by
 by_cases h : n < 10
 ·refine ⟨_, _, decDigits_one h, ?_⟩; exact (show ∀ n : Nat, n < 10 -> UInt8.ofNat (48 + n) ≠ 45 /\ UInt8.ofNat (48 + n) ≠ 43 by decide) n h
 ·obtain ⟨b, r, hb, hk⟩ := dec_head (n / 10); exact ⟨b, r ++ [UInt8.ofNat (48 + n % 10)], by rw [dec_step h, hb, List.cons_append], hk⟩
termination_by n
decreasing_by omega
theorem atoi_dec (n : Nat) : atoi (decDigits n) = some (n : Int) := by
 obtain ⟨b, r, hb, h1, h2⟩ := dec_head n; have h := decFrom_dec n; rw [hb] at h ⊢; rw [atoi, if_neg (by simpa using h1), if_neg (by simpa using h2), decNat, h]; rfl
end Tt
namespace Tt
def digV (l : List UInt8) : Int := l.foldl (fun n c => 10 * n + ((c.toNat : Int) - 48)) 0
def isDig (c : UInt8) : Bool := !(decide (c.toNat < 48)) && !(decide (57 < c.toNat))
def numR (l : List UInt8) : Int := if l.all isDig = true /\ 1 <= l.length /\ l.length <= 9 then digV l else -1
theorem digV_snoc (l : List UInt8) (c : UInt8) : digV (l ++ [c]) = 10 * digV l + ((c.toNat : Int) - 48) := by unfold digV; rw [List.foldl_append]; rfl
theorem digV_from : ∀ (l : List UInt8) (a : Int), l.all isDig = true -> 0 <= a -> 0 <= l.foldl (fun n c => 10 * n + ((c.toNat : Int) - 48)) a /\ l.foldl (fun n c => 10 * n + ((c.toNat : Int) - 48)) a < (a + 1) * ((10 ^ l.length : Nat) : Int)
 | [], a, _, h0 => by simp; omega
 | c :: r, a, h, h0 => by
  rw [List.all_cons, Bool.and_eq_true] at h; have hc := h.1; unfold isDig at hc; simp at hc; have ih := digV_from r (10 * a + ((c.toNat : Int) - 48)) h.2 (by omega); rw [List.foldl_cons, List.length_cons]; refine ⟨ih.1, Int.lt_of_lt_of_le ih.2 ?_⟩; have hp : ((10 ^ (r.length + 1) : Nat) : Int) = 10 * ((10 ^ r.length : Nat) : Int) := by rw [Nat.pow_succ, Nat.mul_comm, Int.natCast_mul]; rfl
  rw [hp, <- Int.mul_assoc]; exact Int.mul_le_mul_of_nonneg_right (by omega) (Int.natCast_nonneg _)
theorem digV_range (l : List UInt8) (h : l.all isDig = true) : 0 <= digV l /\ digV l < (10 ^ l.length : Nat) := by
 have := digV_from l 0 h (Int.le_refl 0); rw [Int.zero_add, Int.one_mul] at this; exact this
theorem numR_range (l : List UInt8) : -1 <= numR l /\ numR l < 1000000000 := by
 unfold numR; split
 ·rename_i h
  obtain ⟨h1, h2⟩ := digV_range l h.1; have h3 : 10 ^ l.length <= 10 ^ 9 := Nat.pow_le_pow_right (by omega) h.2.2; have h4 : (10 ^ 9 : Nat) = 1000000000 := by decide
  omega
 ·omega
theorem numR_two (l : List UInt8) : numR (l.take 2) < 100 := by
 unfold numR; split
 ·rename_i h
  obtain ⟨h1, h2⟩ := digV_range _ h.1; have h5 : (l.take 2).length <= 2 := by rw [List.length_take]; omega
  have h3 : 10 ^ (l.take 2).length <= 10 ^ 2 := Nat.pow_le_pow_right (by omega) h5; have h4 : (10 ^ 2 : Nat) = 100 := by decide
  omega
 ·omega
def momR (l : List UInt8) : Int × Int × Bool := if l.length ≠ 15 then (0, 0, false) else
 ((dayV (numR (l.take 4)) (numR ((l.drop 4).take 2)) (numR ((l.drop 6).take 2))).1, numR ((l.drop 9).take 2) * 60 + numR ((l.drop 11).take 2), decide ((dayV (numR (l.take 4)) (numR ((l.drop 4).take 2)) (numR ((l.drop 6).take 2))).2 = 0))
def momsR : Nat -> List UInt8 -> List Int
 | 0, _ => []
 | n + 1, l => if 15 <= l.length then (momR (l.take 15)).1 :: momsR n (l.drop 16) else []
end Tt
namespace Go.Proofs.YtageielcdebjlaaGreatDoor
open Go.RowKit
theorem begins114 (s k : ByteArray) (w : World) :
  Calls Tryz.prog 114 #[.string s, .string k] w fun e w' => e = .returned (.tuple #[.string (if Lib.hasPrefix s.data.toList k.data.toList = true then ⟨(s.data.toList.drop k.data.toList.length).toArray⟩ else ⟨#[]⟩), .bool (Lib.hasPrefix s.data.toList k.data.toList)]) /\ w' = w := by
 have hk := Lib.size_eq k; have hs := Lib.size_eq s; by_cases hlt : s.size < k.size
 ·have hlti : (s.size : Int) < k.size := by omega
  have hp : Lib.hasPrefix s.data.toList k.data.toList = false := by
   unfold Lib.hasPrefix; rw [Bool.eq_false_iff]; intro h; have := List.IsPrefix.length_le (List.isPrefixOf_iff_prefix.1 h); omega
  rw [hp, if_neg (by decide)]; clear hk hs hp hlt; go_enter Tryz.func114, Tryz.ntmps114; go_wp2_with fail; go_ret2; exact ⟨rfl, rfl⟩
 ·have hlti : ¬ (s.size : Int) < k.size := by omega
  have hle : (k.size : Int) <= s.size := by omega
  have hk0 : (0 : Int) <= (k.size : Int) := by omega
  have HE := Lh (show (s.extract 0 k.size).data.toList = s.data.toList.take k.data.toList.length from by rw [Lib.extract_data, hk]; simp); have HR := Lh (show s.extract k.size s.size = ⟨(s.data.toList.drop k.data.toList.length).toArray⟩ from by
   refine ByteArray.ext (Array.toList_inj.mp ?_); rw [Lib.extract_to_end, hk])
  obtain ⟨P, hP⟩ : ∃ P, P = Lib.hasPrefix s.data.toList k.data.toList := ⟨_, rfl⟩
  have hne : ((s.extract 0 k.size).toList == k.toList) = P := by
   rw [hP, Lib.toList_data, Lib.toList_data, HE.out]; unfold Lib.hasPrefix; rw [Bool.eq_iff_iff]; simp only [beq_iff_eq, List.isPrefixOf_iff_prefix]; rw [List.prefix_iff_eq_take]; exact ⟨fun h => h.symm, fun h => h.symm⟩
  rw [<- hP]; clear hP HE hk hs hlt; cases P
  ·rw [if_neg (by decide)]; go_enter Tryz.func114, Tryz.ntmps114; go_wp2_with fail; go_ret2; exact ⟨rfl, rfl⟩
  ·rw [if_pos rfl, <- HR.out]; go_enter Tryz.func114, Tryz.ntmps114; go_wp2_with fail; go_ret2; exact ⟨rfl, rfl⟩
theorem number115 (s : ByteArray) (w : World) (hs : s.size <= 9223372036854775806) :
  Calls Tryz.prog 115 #[.string s] w fun e w' => e = .returned (.int .i64 (Tt.numR s.data.toList)) /\ w' = w := by
 have HSZ := Lh (Lib.size_eq s); obtain ⟨N, hN⟩ : ∃ N, N = Tt.numR s.data.toList := ⟨_, rfl⟩
 have HN := Lh hN; rw [<- hN]; clear hN; go_enter Tryz.func115, Tryz.ntmps115; go_wp2_with fail; go_loopw [3, 4] (fun nv iv wr => ∃ (k : Nat) (v : Int), k <= s.size /\ iv = .int .i64 k /\ nv = .int .i64 v /\ Hid ((s.data.toList.take k).all Tt.isDig = true) /\ Hid (k <= 9 -> v = Tt.digV (s.data.toList.take k)) /\ Hid (wr = w)) (fun _ iv _ => s.size - (intOf iv).toNat)
 case atStart => exact ⟨0, 0, Nat.zero_le _, rfl, rfl, Lh rfl, Lh (fun _ => rfl), Lh rfl⟩
 case round =>
  obtain ⟨k, v, hk, rfl, rfl, HA, HV, HW⟩ := hrel; have hsz := HSZ.out; by_cases hlt : k < s.size
  ·have hki : (k : Int) < s.size := by omega
   obtain ⟨c, hc⟩ : ∃ c : UInt8, s[k]'hlt = c := ⟨_, rfl⟩
   have hcl : s.data.toList[k]? = some c := by rw [<- hc]; exact Lib.data_getElem? s k hlt
   have HT := Lh (show s.data.toList.take (k + 1) = s.data.toList.take k ++ [c] from by
    obtain ⟨h1, h2⟩ := List.getElem?_eq_some_iff.1 hcl; rw [List.take_succ_eq_append_getElem h1, h2])
   obtain ⟨n, hn⟩ : ∃ n : Int, n = c.toNat := ⟨_, rfl⟩
   by_cases h0 : n < 48
   ·have hq0 : (c.toNat : Int) < 48 := by omega
    have HR := Lh (show N = -1 from by
     rw [HN.out]; unfold Tt.numR; rw [if_neg]; rintro ⟨h, _⟩; have h1 := List.all_eq_true.1 h c (List.mem_of_getElem? hcl); unfold Tt.isDig at h1; simp at h1; omega)
    clear hcl hn hsz; go_wp2_with fail; go_ret; exact ⟨by rw [HR.out]; rfl, HW.out⟩
   ·have hq0 : ¬ (c.toNat : Int) < 48 := by omega
    by_cases h1 : 57 < n
    ·have hq1 : 57 < (c.toNat : Int) := by omega
     have HR := Lh (show N = -1 from by
      rw [HN.out]; unfold Tt.numR; rw [if_neg]; rintro ⟨h, _⟩; have h1 := List.all_eq_true.1 h c (List.mem_of_getElem? hcl); unfold Tt.isDig at h1; simp at h1; omega)
     clear hcl hn hsz; go_wp2_with fail; go_ret; exact ⟨by rw [HR.out]; rfl, HW.out⟩
    ·have hq1 : ¬ 57 < (c.toNat : Int) := by omega
     have hd : Tt.isDig c = true := by unfold Tt.isDig; simp; omega
     have HA2 := Lh (show (s.data.toList.take (k + 1)).all Tt.isDig = true from by rw [HT.out, List.all_append, HA.out]; simpa using hd); have HV2 := Lh (show k + 1 <= 9 -> wrap64 (wrap64 (10 * v) + ((c.toNat : Int) - 48)) = Tt.digV (s.data.toList.take (k + 1)) from fun h9 => by
      have hv := HV.out (by omega); obtain ⟨r1, r2⟩ := Tt.digV_range _ HA.out; have hl : (s.data.toList.take k).length <= 8 := by rw [List.length_take]; omega
      have hp : 10 ^ (s.data.toList.take k).length <= 10 ^ 8 := Nat.pow_le_pow_right (by omega) hl; have hp8 : (10 ^ 8 : Nat) = 100000000 := by decide
      rw [HT.out, Tt.digV_snoc, <- hv]; rw [<- hv] at r1 r2; unfold RowKit.wrap64; omega)
     clear hcl hd hn h0 h1 hsz; go_wp2_with fail; go_roundw
     case rel => exact ⟨k + 1, _, by omega, by go_num, rfl, HA2, HV2, HW⟩
     case measure => simp [intOf]; omega
  ·have hkn : k = s.size := by omega
   have hki : ¬ (k : Int) < s.size := by omega
   have hall : s.data.toList.take k = s.data.toList := by rw [List.take_of_length_le]; omega
   by_cases h1 : s.size < 1
   ·have hq : (s.size : Int) < 1 := by omega
    have HR := Lh (show N = -1 from by rw [HN.out]; unfold Tt.numR; rw [if_neg]; omega); clear hall hsz hkn; go_wp2_with fail; go_ret; exact ⟨by rw [HR.out]; rfl, HW.out⟩
   ·have hq : ¬ (s.size : Int) < 1 := by omega
    by_cases h9 : 9 < s.size
    ·have hq9 : (9 : Int) < s.size := by omega
     have HR := Lh (show N = -1 from by rw [HN.out]; unfold Tt.numR; rw [if_neg]; omega); clear hall hsz hkn; go_wp2_with fail; go_ret; exact ⟨by rw [HR.out]; rfl, HW.out⟩
    ·have hq9 : ¬ (9 : Int) < s.size := by omega
     have HR := Lh (show N = v from by
      rw [HN.out]; unfold Tt.numR; have h2 := HA.out; have h3 := HV.out (by omega); rw [hall] at h2 h3; rw [if_pos ⟨h2, by omega, by omega⟩, h3])
     clear hall hsz hkn; go_wp2_with fail; go_ret; exact ⟨by rw [HR.out]; rfl, HW.out⟩
theorem names260 (w : World) : Calls Tryz.prog 260 #[] w fun e w' => e = .returned (.slice (some ⟨w.heap.size, 0, none⟩) 7 7) /\ w' = w.alloc (.cells #[.string ⟨#[77, 79]⟩, .string ⟨#[84, 85]⟩, .string ⟨#[87, 69]⟩, .string ⟨#[84, 72]⟩, .string ⟨#[70, 82]⟩, .string ⟨#[83, 65]⟩, .string ⟨#[83, 85]⟩] 9) := by
 go_enter Tryz.func260, Tryz.ntmps260; go_wp2_with fail; go_ret; exact ⟨rfl, rfl⟩
theorem names_cell {W : World} {g i : Nat} (h : i < 7) (hg : W.heap[g]? = some (.cells #[.string ⟨#[77, 79]⟩, .string ⟨#[84, 85]⟩, .string ⟨#[87, 69]⟩, .string ⟨#[84, 72]⟩, .string ⟨#[70, 82]⟩, .string ⟨#[83, 65]⟩, .string ⟨#[83, 85]⟩] 9 (0, 0))) : W.cell? ⟨g, i, none⟩ = some (.string ⟨(Tt.nameW i).toArray⟩) := by
 rw [Lib.cell_of_heap hg]; rcases (show i = 0 ∨ i = 1 ∨ i = 2 ∨ i = 3 ∨ i = 4 ∨ i = 5 ∨ i = 6 by omega) with rfl | rfl | rfl | rfl | rfl | rfl | rfl <;> rfl
theorem rule182W (s : Tt.Ser) (v v' : Value) (w : World) (he0 : 0 <= s.every) (he1 : s.every <= 9) (hl0 : 0 <= s.last) (hl1 : s.last <= 36524) (hw0 : 0 <= s.wd) (hw1 : s.wd <= 127) :
  Calls Tryz.prog 182 #[serVal s v v'] w fun e w' => e = .returned (.string ⟨(Tt.ruleL s).toArray⟩) /\ Below w.heap.size w w' := by
 have S0 : SerAt w.heap.size s v v' (w.alloc (.cells #[.int .i64 s.first, .int .i64 s.last, .int .i64 s.every, .int .i64 s.wd, v, v'] 80)) := heap_alloc_new w _; have HS0 := Lh S0; have HB0 := Lh (below_box w (.cells #[.int .i64 s.first, .int .i64 s.last, .int .i64 s.every, .int .i64 s.wd, v, v'] 80)); obtain ⟨w0, hw00⟩ : ∃ w0, w0 = w.alloc (.cells #[.int .i64 s.first, .int .i64 s.last, .int .i64 s.every, .int .i64 s.wd, v, v'] 80) := ⟨_, rfl⟩
 rw [<- hw00] at HS0 HB0; unfold serVal; clear S0; have HE := Lh (Tt.digR_one (n := s.every.toNat) (by omega)); have HE1 := Lh (Lib.decDigits_one (i := s.every.toNat) (by omega)); obtain ⟨e0, e1, e2, e3, e4, e5⟩ := HS0.out.cells; go_enter Tryz.func182, Tryz.ntmps182; go_upto_region 1 with (fail); rw [<- hw00]; clear hw00; go_wp2_with fail; refine (digits259 s.every 1 w0 (by omega) (by omega) (by omega)).mono ?_; rintro e w1 ⟨rfl, hb1⟩; rw [HE.out]; obtain ⟨s0, hs0⟩ : ∃ q, q = (⟨[UInt8.ofNat (48 + s.every.toNat)].toArray⟩ : ByteArray) := ⟨_, rfl⟩
 have z0 : s0.size = 1 := by rw [hs0]; rfl
 rw [<- hs0]; have HS00 := Lh hs0; have HB1 := Lh (HB0.out.trans (hb1.mono HB0.out.size)); have HS1 := Lh (show SerAt w.heap.size s v v' w1 from (hb1.block w.heap.size HS0.out.lt).trans HS0.out); clear hs0 hb1 HS0 HB0 e0 e1 e2 e3 e4 e5; go_wp2_with fail; go_loopw [3, 4, 5] (fun ov sv iv wr => ∃ (i : Nat) (o sg : ByteArray), ov = .string o /\ sv = .string sg /\ iv = .int .i64 i /\ i <= 7 /\ o.size <= 29 + 3 * i /\ sg.size <= 1 /\ Hid (o.data.toList = [70, 82, 69, 81, 61, 87, 69, 69, 75, 76, 89, 59, 73, 78, 84, 69, 82, 86, 65, 76, 61] ++ [UInt8.ofNat (48 + s.every.toNat)] ++ [59, 66, 89, 68, 65, 89, 61] ++ Tt.byL s.wd i) /\ Hid (sg.data.toList = if Tt.wdays s.wd i = [] then [] else [44]) /\ Hid (SerAt w.heap.size s v v' wr) /\ Hid (Below w.heap.size w wr)) (fun _ _ iv _ => 7 - (intOf iv).toNat)
 case atStart => exact ⟨0, _, _, rfl, rfl, rfl, by omega, by simp only [bs_size]; rw [z0]; decide, by decide, Lh (by simp only [bs_app, HS00.out]; rfl), Lh rfl, HS1, HB1⟩
 case round =>
  clear HS1 HB1; obtain ⟨i, o, sg, rfl, rfl, rfl, hi, hoz, hsz, HO, HSG, HS, HB⟩ := hrel; have hsw := HB.out.size; have hslt := HS.out.lt; obtain ⟨e0, e1, e2, e3, e4, e5⟩ := HS.out.cells; by_cases hlt : i < 7
  ·have hlti : (i : Int) < 7 := by omega
   have HBT := Lh (show (bits .and .i64 (s.wd / 2 ^ i) 1 == 1) = Tt.bit s.wd (i : Int) from bit_is s.wd (i : Int) hw0 (by omega)); cases hb : (bits .and .i64 (s.wd / 2 ^ i) 1 == 1)
   ·have hbf : Tt.bit s.wd (i : Int) = false := by rw [<- HBT.out, hb]
    have HST := Lh (show Tt.wdays s.wd (i + 1) = Tt.wdays s.wd i from by rw [Tt.wdays_step, if_neg (by simp [hbf])]); have HBY := Lh (Tt.byL_same hbf); clear HBT hbf; go_wp2_with fail; go_roundw
    case rel => exact ⟨i + 1, o, sg, rfl, rfl, by go_num, by omega, by omega, hsz, by rw [HBY.out]; exact HO, by rw [HST.out]; exact HSG, HS, HB⟩
    case measure => simp [intOf]; omega
   ·have hbf : Tt.bit s.wd (i : Int) = true := by rw [<- HBT.out, hb]
    have HST := Lh (show Tt.wdays s.wd (i + 1) ≠ [] from by rw [Tt.wdays_step, if_pos hbf]; simp); have HBY := Lh (Tt.byL_step hbf); have hnz : (ByteArray.mk (Tt.nameW i).toArray).size = 2 := str_size (Tt.nameW_len hlt); have HC := Lh (names_cell (W := wr.alloc (.cells #[.string ⟨#[77, 79]⟩, .string ⟨#[84, 85]⟩, .string ⟨#[87, 69]⟩, .string ⟨#[84, 72]⟩, .string ⟨#[70, 82]⟩, .string ⟨#[83, 65]⟩, .string ⟨#[83, 85]⟩] 9)) hlt (heap_alloc_new wr _)); clear HBT hbf; go_wp2_with fail; refine (names260 wr).mono ?_; rintro e w2 ⟨rfl, hw2⟩; have hc := HC.out; rw [<- hw2] at hc; have HB2 := Lh (show Below w.heap.size w w2 from by rw [hw2]; exact HB.out.alloc hsw _); have HS2 := Lh (show SerAt w.heap.size s v v' w2 from by rw [hw2]; exact (Lib.alloc_old wr _ w.heap.size hslt).trans HS.out); obtain ⟨nm, hnm⟩ : ∃ q, q = ByteArray.mk (Tt.nameW i).toArray := ⟨_, rfl⟩
    rw [<- hnm] at hc hnz; have HNM := Lh (show nm.data.toList = Tt.nameW i from by rw [hnm]); clear hw2 HC hnm; go_wp2_with fail; go_roundw
    case rel => exact ⟨i + 1, o ++ (sg ++ nm), ⟨#[44]⟩, rfl, rfl, by go_num, by omega, by rw [bs_size, bs_size, hnz]; omega, by decide, Lh (by rw [bs_app, bs_app, HO.out, HSG.out, HBY.out, HNM.out]; simp only [List.append_assoc]), Lh (by rw [if_neg HST.out]), HS2, HB2⟩
    case measure => simp [intOf]; omega
  ·have hlti : ¬ (i : Int) < 7 := by omega
   have hi7 : i = 7 := by omega
   have HO7 := Lh (show o.data.toList = [70, 82, 69, 81, 61, 87, 69, 69, 75, 76, 89, 59, 73, 78, 84, 69, 82, 86, 65, 76, 61] ++ [UInt8.ofNat (48 + s.every.toNat)] ++ [59, 66, 89, 68, 65, 89, 61] ++ Tt.byL s.wd 7 from by rw [<- hi7]; exact HO.out); have HR := Lh (show Tt.ruleL s = [70, 82, 69, 81, 61, 87, 69, 69, 75, 76, 89, 59, 73, 78, 84, 69, 82, 86, 65, 76, 61] ++ Lib.decDigits s.every.toNat ++ [59, 66, 89, 68, 65, 89, 61] ++ Tt.byL s.wd 7 ++ [59, 85, 78, 84, 73, 76, 61] ++ Tt.dateL s.last from rfl); have hoz2 : o.size <= 50 := by omega
   clear hi7 hoz; go_wp2_with fail; refine (date183 s.last wr hl0 hl1).mono ?_; rintro e w2 ⟨rfl, hb2⟩; obtain ⟨s2, hs2⟩ : ∃ q, q = (⟨(Tt.dateL s.last).toArray⟩ : ByteArray) := ⟨_, rfl⟩
   have z2 : s2.size = 8 := by rw [hs2]; rfl
   rw [<- hs2]; have HS2 := Lh (show s2.data.toList = Tt.dateL s.last from by rw [hs2]); have HB2 := Lh (HB.out.trans (hb2.mono hsw)); clear hs2 hb2; go_wp2_with fail; go_ret; exact ⟨ret_bytes (by rw [bs_app, bs_app, HO7.out, HS2.out, HR.out, HE1.out]), HB2.out⟩
theorem rule182 (s : Tt.Ser) (v v' : Value) (w : World) (hh : Tt.Head s) :
  Calls Tryz.prog 182 #[serVal s v v'] w fun e w' => e = .returned (.string ⟨(Tt.ruleL s).toArray⟩) /\ Below w.heap.size w w' :=
 rule182W s v v' w (by have := hh.e0; omega) (by have := hh.e1; omega) hh.l0 hh.l1 hh.w0 hh.w1
theorem format111 (s : Tt.Ser) (B : Nat) (w : World) (hs : Tt.serV s = 0) (ao ao' : Option Addr) (c c' : Nat) (hB : B <= w.heap.size) (hI : Ints B w ao s.ex) (hI' : Ints B w ao' s.xt) :
  Calls Tryz.prog 111 #[serVal s (.slice ao s.ex.length c) (.slice ao' s.xt.length c')] w fun e w' => e = .returned (.tuple #[.string ⟨(Tt.ruleL s).toArray⟩, .int .i64 0]) /\ Below w.heap.size w w' := by
 have hh := ((Tt.serV_zero s).1 hs).1; have hbx := below_box w (.cells #[.int .i64 s.first, .int .i64 s.last, .int .i64 s.every, .int .i64 s.wd, .slice ao s.ex.length c, .slice ao' s.xt.length c'] 80); have S0 : SerAt w.heap.size s (.slice ao s.ex.length c) (.slice ao' s.xt.length c') (w.alloc (.cells #[.int .i64 s.first, .int .i64 s.last, .int .i64 s.every, .int .i64 s.wd, .slice ao s.ex.length c, .slice ao' s.xt.length c'] 80)) := heap_alloc_new w _; obtain ⟨w0, hw00⟩ : ∃ w0, w0 = w.alloc (.cells #[.int .i64 s.first, .int .i64 s.last, .int .i64 s.every, .int .i64 s.wd, .slice ao s.ex.length c, .slice ao' s.xt.length c'] 80) := ⟨_, rfl⟩
 rw [<- hw00] at S0 hbx; have HV : Hid (Calls Tryz.prog 170 #[serVal s (.slice ao s.ex.length c) (.slice ao' s.xt.length c')] w0 fun e w' => e = .returned (.int .i64 0) /\ Below w0.heap.size w0 w') := Lh (by
  have h := valid170_any s B w0 (by have := hh.n; omega) (by have := hh.n; omega) ao ao' c c' (by have := hbx.size; omega) (hI.below (hbx.mono hB)) (hI'.below (hbx.mono hB)); rw [hs] at h; exact h)
 have HR : Hid (∀ W : World, Calls Tryz.prog 182 #[serVal s (.slice ao s.ex.length c) (.slice ao' s.xt.length c')] W fun e w' => e = .returned (.string ⟨(Tt.ruleL s).toArray⟩) /\ Below W.heap.size W w') := Lh (fun W => rule182 s _ _ W hh); have HS0 := Lh S0; have HB0 := Lh hbx; obtain ⟨ex, hex⟩ : ∃ n, n = s.ex.length := ⟨_, rfl⟩
 obtain ⟨xt, hxt⟩ : ∃ n, n = s.xt.length := ⟨_, rfl⟩
 unfold serVal at HV HR ⊢; rw [<- hex, <- hxt] at HV HS0 hw00 HR ⊢; clear S0 hI hI' hh hs hex hxt hbx; obtain ⟨e0, e1, e2, e3, e4, e5⟩ := HS0.out.cells; go_enter Tryz.func111, Tryz.ntmps111; go_upto_region 1 with (fail); rw [<- hw00]; clear hw00; go_wp2_with fail; refine HV.out.mono ?_; rintro e w1 ⟨rfl, hb1⟩; have HB1 := Lh (HB0.out.trans (hb1.mono HB0.out.size)); have HS1 := Lh (show SerAt w.heap.size s (.slice ao ex c) (.slice ao' xt c') w1 from (hb1.block w.heap.size HS0.out.lt).trans HS0.out); clear hb1 HV HS0 HB0 e0 e1 e2 e3 e4 e5; obtain ⟨e0, e1, e2, e3, e4, e5⟩ := HS1.out.cells; go_wp2_with fail; refine (HR.out w1).mono ?_; rintro e w2 ⟨rfl, hb2⟩; have HB2 := Lh (HB1.out.trans (hb2.mono HB1.out.size)); clear hb2; go_wp2_with fail; go_ret2; exact ⟨rfl, HB2.out⟩
theorem num_cut (s : ByteArray) (a b : Nat) : Tt.numR (s.extract a b).data.toList = Tt.numR ((s.data.toList.drop a).take (b - a)) := by rw [Lib.extract_data]
theorem num_cut2 (s : ByteArray) (a : Nat) : -1 <= Tt.numR (s.extract a (a + 2)).data.toList /\ Tt.numR (s.extract a (a + 2)).data.toList < 100 := by
 rw [num_cut, show a + 2 - a = 2 by omega]; exact ⟨(Tt.numR_range _).1, Tt.numR_two _⟩
theorem moment184 (s : ByteArray) (w : World) (_hs : s.size <= 9223372036854775806) :
  Calls Tryz.prog 184 #[.string s] w fun e w' => e = .returned (.tuple #[.int .i64 (Tt.momR s.data.toList).1, .int .i64 (Tt.momR s.data.toList).2.1, .bool (Tt.momR s.data.toList).2.2]) /\ Below w.heap.size w w' := by
 by_cases hn : s.size = 15
 ·have hsz : (s.size : Int) = 15 := by omega
  have HR := Lh (show Tt.momR s.data.toList = ((Tt.dayV (Tt.numR (s.extract 0 4).data.toList) (Tt.numR (s.extract 4 6).data.toList) (Tt.numR (s.extract 6 8).data.toList)).1, Tt.numR (s.extract 9 11).data.toList * 60 + Tt.numR (s.extract 11 13).data.toList, decide ((Tt.dayV (Tt.numR (s.extract 0 4).data.toList) (Tt.numR (s.extract 4 6).data.toList) (Tt.numR (s.extract 6 8).data.toList)).2 = 0)) from by
   unfold Tt.momR; rw [if_neg (by rw [<- Lib.size_eq]; omega), num_cut, num_cut, num_cut, num_cut, num_cut, List.drop_zero])
  have c2 := num_cut2 s 6; have c3 := num_cut2 s 9; have c4 := num_cut2 s 11; rw [show 6 + 2 = 8 from rfl] at c2; rw [show 9 + 2 = 11 from rfl] at c3; rw [show 11 + 2 = 13 from rfl] at c4; have q2 := num_cut2 s 6; have q3 := num_cut2 s 9; have q4 := num_cut2 s 11; rw [num_cut, show 6 + 2 - 6 = 2 from rfl] at q2; rw [num_cut, show 9 + 2 - 9 = 2 from rfl] at q3; rw [num_cut, show 11 + 2 - 11 = 2 from rfl] at q4; have HZ : Hid (∀ a b : Nat, (s.extract a b).size <= 9223372036854775806) := Lh (fun a b => by rw [ByteArray.size_extract]; omega); clear hn _hs; go_enter Tryz.func184, Tryz.ntmps184; go_wp2_with fail; go_quiet (first | (go_at_call 115; exact Calls.quiet_of_same (number115 _ _ (HZ.out _ _))) | (go_at_call 262; exact Calls.quiet_of_same (day262 _ _ _ _ (by omega) (by omega))))
  obtain ⟨W, hW⟩ : ∃ W, W = w.drewN nq := ⟨_, rfl⟩
  rw [<- hW]; have HW := Lh hW; clear hW; have k1 : wrap64 (Tt.numR (List.take 2 (List.drop 9 s.data.toList)) * 60) = Tt.numR (List.take 2 (List.drop 9 s.data.toList)) * 60 := by unfold RowKit.wrap64; omega
  have k2 : wrap64 (Tt.numR (List.take 2 (List.drop 9 s.data.toList)) * 60 + Tt.numR (List.take 2 (List.drop 11 s.data.toList))) = Tt.numR (List.take 2 (List.drop 9 s.data.toList)) * 60 + Tt.numR (List.take 2 (List.drop 11 s.data.toList)) := by unfold RowKit.wrap64; omega
  obtain ⟨D, hD⟩ : ∃ D, D = (Tt.dayV (Tt.numR (List.take 4 s.data.toList)) (Tt.numR (List.take 2 (List.drop 4 s.data.toList))) (Tt.numR (List.take 2 (List.drop 6 s.data.toList)))).1 := ⟨_, rfl⟩
  obtain ⟨E, hE⟩ : ∃ D, D = (Tt.dayV (Tt.numR (List.take 4 s.data.toList)) (Tt.numR (List.take 2 (List.drop 4 s.data.toList))) (Tt.numR (List.take 2 (List.drop 6 s.data.toList)))).2 := ⟨_, rfl⟩
  have HR2 := Lh (show Tt.momR s.data.toList = (D, Tt.numR (List.take 2 (List.drop 9 s.data.toList)) * 60 + Tt.numR (List.take 2 (List.drop 11 s.data.toList)), decide (E = 0)) from by
   rw [HR.out, num_cut, num_cut, num_cut, num_cut, num_cut, List.drop_zero, hD, hE])
  rw [<- hD, <- hE]; clear hD hE HR; go_wp2_with fail; go_quiet (first | (go_at_call 115; exact Calls.quiet_of_same (number115 _ _ (HZ.out _ _))))
  go_wp2_with fail; go_ret3; rw [HR2.out]; exact ⟨rfl, below_drew (by rw [HW.out]; exact below_drew (Below.refl _ _))⟩
 ·have HR := Lh (show Tt.momR s.data.toList = (0, 0, false) from by unfold Tt.momR; rw [if_pos]; rw [<- Lib.size_eq]; exact hn); have hsz : ¬ (s.size : Int) = 15 := by omega
  clear hn; go_enter Tryz.func184, Tryz.ntmps184; go_wp2_with fail; go_ret3; exact ⟨by rw [HR.out]; rfl, Below.refl _ _⟩
def RefT (lo : Nat) (w : World) (t : Ev × Value × Value) : Prop := EvB t.1 /\ RowI lo w t.2.1 t.1.days.ex /\ RowI lo w t.2.2 t.1.days.xt
structure RowT (lo : Nat) (w : World) (v : Value) (ts : List (Ev × Value × Value)) : Prop where
 row : w.ownsRow lo 82 13 v ts.length (tCells ts)
 ref : ∀ t ∈ ts, RefT lo w t
theorem RefT.s {lo : Nat} {w : World} {t : Ev × Value × Value} (h : RefT lo w t) : RefS w.heap.size w t := by
 obtain ⟨hg, hx, hy⟩ := h; obtain ⟨ax, cx, e1, i1⟩ := hx.ints; obtain ⟨ay, cy, e2, i2⟩ := hy.ints; exact ⟨hg, ⟨ax, cx, e1, i1⟩, ⟨ay, cy, e2, i2⟩⟩
theorem RowT.seg {lo : Nat} {w : World} {v : Value} {ts : List (Ev × Value × Value)} (h : RowT lo w v ts) : ∃ ao c, v = .slice ao ts.length c /\ (ao = none -> c = 0) /\ Seg w.heap.size w ao ts := by
 have hr : ∀ t ∈ ts, RefS w.heap.size w t := fun t ht => (h.ref t ht).s
 rcases h.row.2 with ⟨hv, h0⟩ | ⟨g, cap, cur, hv, r2, r3, r4, r5, _⟩
 ·have : ts = [] := List.eq_nil_of_length_eq_zero h0; subst this; exact ⟨none, 0, hv, fun _ => rfl, Seg.nil _ _ _⟩
 ·refine ⟨_, cap, hv, fun e => (by cases e), .inr ⟨g, 0, rfl, (Array.getElem?_eq_some_iff.1 r3).1, fun j u hj => ?_⟩, hr⟩; have := h.row.cells (g := g) (by rw [hv]; rfl) j u hj; rw [Addr.add_lit] at this; exact this
theorem RowT.nil (lo : Nat) (w : World) : RowT lo w (.slice none 0 0) [] := ⟨World.ownsRow_nil _ _ _ _, fun t h => by cases h⟩
theorem RefT.mono {lo lo' : Nat} {w : World} {t : Ev × Value × Value} (h : RefT lo w t) (hb : lo' <= lo) : RefT lo' w t := ⟨h.1, ownsRow_mono h.2.1 hb, ownsRow_mono h.2.2 hb⟩
theorem RowT.mono {lo lo' : Nat} {w : World} {v : Value} {ts : List (Ev × Value × Value)} (h : RowT lo w v ts) (hb : lo' <= lo) : RowT lo' w v ts := ⟨ownsRow_mono h.row hb, fun t ht => (h.ref t ht).mono hb⟩
theorem RefT.made {lo : Nat} {w w' : World} {t : Ev × Value × Value} (h : RefT lo w t) (hb : Below w.heap.size w w') : RefT lo w' t := ⟨h.1, row_made h.2.1 hb, row_made h.2.2 hb⟩
theorem RowT.made {lo : Nat} {w w' : World} {v : Value} {ts : List (Ev × Value × Value)} (h : RowT lo w v ts) (hb : Below w.heap.size w w') : RowT lo w' v ts := ⟨row_made h.row hb, fun t ht => (h.ref t ht).made hb⟩
theorem RefT.set {lo : Nat} {w : World} {t : Ev × Value × Value} (h : RefT lo w t) {g : Nat} {cs : Array Value} {ty : TypeId} (hg : Blk g cs ty w) (hte : ty ≠ 3) (i : Nat) (u : Value) : RefT lo (w.setCell ⟨g, i, none⟩ u) t := ⟨h.1, row_set h.2.1 hg hte i u, row_set h.2.2 hg hte i u⟩
theorem RowT.set {lo : Nat} {w : World} {v : Value} {ts : List (Ev × Value × Value)} (h : RowT lo w v ts) {g : Nat} {cs : Array Value} {ty : TypeId} (hg : Blk g cs ty w) (hte : ty ≠ 3) (hte2 : ty ≠ 82) (i : Nat) (u : Value) : RowT lo (w.setCell ⟨g, i, none⟩ u) v ts := ⟨row_set h.row hg hte2 i u, fun t ht => (h.ref t ht).set hg hte i u⟩
theorem RefT.alloc {lo : Nat} {w : World} {t : Ev × Value × Value} (h : RefT lo w t) (o : Obj) : RefT lo (w.alloc o) t := ⟨h.1, World.ownsRow.alloc h.2.1 o, World.ownsRow.alloc h.2.2 o⟩
theorem RefT.grown {lo B n k : Nat} {w w' : World} {t : Ev × Value × Value} {v : Value} {xs : List Value} (h : RefT lo w t) (hown : w.ownsRow B 82 k v n xs) (hg : w.grownBy w' v.ownBlock) : RefT lo w' t :=
 ⟨h.1, World.ownsRow.kept h.2.1 hg (row_apart_ty h.2.1 hown (by decide)), World.ownsRow.kept h.2.2 hg (row_apart_ty h.2.2 hown (by decide))⟩
theorem RowT.changed {lo : Nat} {w w' : World} {v v' : Value} {ts us : List (Ev × Value × Value)} (h : RowT lo w v ts) (hg : w.grownBy w' v.ownBlock) (hu : ∀ t ∈ us, t ∈ ts ∨ RefT lo w t) (hrow : w'.ownsRow lo 82 13 v' us.length (tCells us)) : RowT lo w' v' us :=
 ⟨hrow, fun t ht => (hu t ht).elim (fun k => (h.ref t k).grown h.row hg) (fun k => k.grown h.row hg)⟩
theorem RowT.snoc {lo : Nat} {w w' : World} {v v' : Value} {ts : List (Ev × Value × Value)} {t : Ev × Value × Value} (h : RowT lo w v ts) (ht : RefT lo w t) (hg : w.grownBy w' v.ownBlock)
  (hrow : w'.ownsRow lo 82 13 v' (ts.length + 1) (tCells ts ++ (evCells t.1 t.2.1 t.2.2).toList)) : RowT lo w' v' (ts ++ [t]) := by
 refine h.changed hg (fun s hs => ?_) ?_
 ·rcases List.mem_append.1 hs with k | k
  ·exact .inl k
  ·rw [List.mem_singleton.1 k]; exact .inr ht
 ·rw [tCells_snoc, List.length_append]; exact hrow
theorem below_grownBy {B B' k n : Nat} {w0 w w' : World} {e : TypeId} {v : Value} {xs : List Value} (hb : Below B w0 w) (hown : w.ownsRow B' e k v n xs) (hB : B <= B') (hs : B <= w.heap.size) (hg : w.grownBy w' v.ownBlock) : Below B w0 w' := by
 refine hb.trans ⟨hg.os, hg.tape, hg.output, hg.size, fun j hj => hg.block j (by omega) (fun he => ?_)⟩; have := (hown.lt j he.symm).1; omega
end Go.Proofs.YtageielcdebjlaaGreatDoor
namespace Tt
theorem momsR_go {n : Nat} {l : List UInt8} (h : 15 <= l.length) (hn : 0 < n) : momsR n l = (momR (l.take 15)).1 :: momsR (n - 1) (l.drop 16) := by
 cases n with
 | zero => omega
 | succ n => rw [momsR, if_pos h]; rfl
theorem momsR_end {n : Nat} {l : List UInt8} (h : l.length < 15) : momsR n l = [] := by
 cases n with
 | zero => rfl
 | succ n => rw [momsR, if_neg (by omega)]
end Tt
namespace Go.Proofs.YtageielcdebjlaaGreatDoor
open Go.RowKit
theorem moments185 (s : ByteArray) (w : World) (hs : s.size <= 262144) :
  Calls Tryz.prog 185 #[.string s] w fun e w' => ∃ v, e = .returned v /\ RowI w.heap.size w' v (Tt.momsR s.size s.data.toList) /\ Below w.heap.size w w' := by
 obtain ⟨i0, hi, hz0, hz1, hz2⟩ := info_parts infoInt; have HSZ := Lh (Lib.size_eq s); go_enter Tryz.func185, Tryz.ntmps185; go_wp2_with fail; go_loopw [3, 4] (fun lv iv wr => ∃ (k a : Nat) (ds : List Int), iv = .int .i64 a /\ k <= s.size /\ a <= s.size + 16 /\ Hid (a = 16 * k) /\ Hid (ds.length = k) /\ Hid (RowI w.heap.size wr lv ds) /\ Hid (Tt.momsR s.size s.data.toList = ds ++ Tt.momsR (s.size - k) (s.data.toList.drop a)) /\ Hid (Below w.heap.size w wr)) (fun _ iv _ => s.size + 16 - (intOf iv).toNat)
 case atStart => exact ⟨0, 0, [], rfl, Nat.zero_le _, Nat.zero_le _, Lh rfl, Lh rfl, Lh (RowI.nil _ _), Lh (by simp), Lh (Below.refl _ _)⟩
 case round =>
  obtain ⟨k, a, ds, rfl, hk, ha, HAK, HDK, HO, HM, HB⟩ := hrel; have hsw := HB.out.size; have ha0 : (0 : Int) <= (a : Int) := by omega
  have hw15 : wrap64 ((a : Int) + 15) = (a : Int) + 15 := by unfold RowKit.wrap64; omega
  by_cases hlt : a + 15 <= s.size
  ·have hlti : (a : Int) + 15 <= s.size := by omega
   have hkk : k + 1 <= s.size := by have := HAK.out; omega
   have hto : ((a : Int) + 15).toNat = a + 15 := by omega
   have HT := Lh (show (s.extract a (a + 15)).data.toList = (s.data.toList.drop a).take 15 from by rw [Lib.extract_data, show a + 15 - a = 15 by omega]); have HZ := Lh (show (s.extract a (a + 15)).size <= 9223372036854775806 from by rw [ByteArray.size_extract]; omega); have HM2 := Lh (show Tt.momsR s.size s.data.toList = (ds ++ [(Tt.momR ((s.data.toList.drop a).take 15)).1]) ++ Tt.momsR (s.size - (k + 1)) (s.data.toList.drop (a + 16)) from by
    rw [HM.out, Tt.momsR_go (by rw [List.length_drop, <- HSZ.out]; omega) (by omega), List.drop_drop, List.append_assoc]; rfl)
   clear hlt HM; go_wp2_with fail; refine (moment184 _ _ HZ.out).mono ?_; rintro e w1 ⟨rfl, hb⟩; rw [HT.out]; obtain ⟨D, hD⟩ : ∃ D, D = Tt.momR ((s.data.toList.drop a).take 15) := ⟨_, rfl⟩
   rw [<- hD] at HM2 ⊢; obtain ⟨d1, d2, d3⟩ := D; have HO1 := Lh (ownsRow_below HO.out hb); have HB1 := Lh (HB.out.trans (hb.mono hsw)); have hs1 := HB1.out.size; clear hb hD HT HZ HO HB; go_wp2_with (at_builtin; refine wpList_append_own_at _ rfl (.tmp 25) (.tmp 27) 27 rfl w.heap.size 3 i0 (.int .i64 0) 1 8 Tryz.underlying27 hi hz0 hz1 hz2 rfl (by decide) _ _ _ rfl (World.ownsRow.alloc HO1.out _) ⟨w1.heap.size, 0, none⟩ 1 1 [.int .i64 d1] rfl rfl (cell_one _ _ _) (by intro u hu; simp at hu; subst hu; rfl) (by unfold maxLen; have := HDK.out; omega) (by have := HDK.out; omega) (by simp; omega) ?_); intro v9 W9 hown hgrow _ hat; have HO9 := Lh (show RowI w.heap.size W9 v9 (ds ++ [d1]) from RowI.snoc hown); have HB9 := Lh (below_grownBy (HB1.out.trans ((below_box w1 _).mono hs1)) (World.ownsRow.alloc HO1.out _) (Nat.le_refl _) (by simp; omega) hgrow); clear hown hgrow hat HO1 HB1; go_wp2_with fail; go_roundw
   case rel => exact ⟨k + 1, a + 16, ds ++ [d1], by go_num, hkk, by omega, Lh (by have := HAK.out; omega), Lh (by rw [List.length_append, HDK.out]; rfl), HO9, HM2, HB9⟩
   case measure => simp [intOf]; omega
  ·have hlti : ¬ (a : Int) + 15 <= s.size := by omega
   have HR := Lh (show Tt.momsR s.size s.data.toList = ds from by rw [HM.out, Tt.momsR_end (by rw [List.length_drop, <- HSZ.out]; omega), List.append_nil]); clear hlt HM; go_wp2_with fail; go_ret; exact ⟨_, rfl, by rw [HR.out]; exact HO.out, HB.out⟩
end Go.Proofs.YtageielcdebjlaaGreatDoor
namespace Tt
open Go Go.Lib
def wkGo : Nat -> Int -> List UInt8 -> Int × List UInt8
 | 0, set, s => if 0 < set then (0, []) else (0, s)
 | f + 1, set, s =>
  if hasPrefix s (nameW (6 - f)) = true then
   (if hasPrefix (trimPrefix s (nameW (6 - f))) [44] = true then wkGo f (set + 2 ^ (6 - f)) (trimPrefix (trimPrefix s (nameW (6 - f))) [44]) else (set + 2 ^ (6 - f), trimPrefix s (nameW (6 - f))))
  else wkGo f set s
theorem or_bit0 : ∀ k : Nat, k < 7 -> ∀ v : Nat, v < 2 ^ k -> bits BinOp.or IntKind.i64 (v : Int) (2 ^ k : Int) = (v : Int) + 2 ^ k := by decide
theorem wrap_pow {k : Nat} (h : k < 7) : RowKit.wrap64 (2 ^ k) = 2 ^ k := by
 match k, h with
 | 0, _ | 1, _ | 2, _ | 3, _ | 4, _ | 5, _ | 6, _ => (unfold RowKit.wrap64; omega)
theorem or_bit (k : Nat) (h : k < 7) (v : Nat) (hv : v < 2 ^ k) : bits BinOp.or IntKind.i64 (v : Int) (RowKit.wrap64 (2 ^ k)) = ((v + 2 ^ k : Nat) : Int) := by
 rw [wrap_pow h, or_bit0 k h v hv]; push_cast; rfl
theorem name_cut {k : Nat} (h : k < 7) : (⟨#[77, 79, 84, 85, 87, 69, 84, 72, 70, 82, 83, 65, 83, 85]⟩ : ByteArray).extract (2 * k) (2 * k + 2) = ⟨(nameW k).toArray⟩ := by
 refine Go.Proofs.YtageielcdebjlaaGreatDoor.mk_bytes ?_; rw [Lib.extract_data]; match k, h with
 | 0, _ | 1, _ | 2, _ | 3, _ | 4, _ | 5, _ | 6, _ => rfl
end Tt
namespace Go.Proofs.YtageielcdebjlaaGreatDoor
open Go.RowKit
theorem weekdays257 (s : ByteArray) (w : World) :
  Calls Tryz.prog 257 #[.string s] w fun e w' => e = .returned (.tuple #[.int .i64 (Tt.wkGo 7 0 s.data.toList).1, .string ⟨(Tt.wkGo 7 0 s.data.toList).2.toArray⟩]) /\ w' = w := by
 go_enter Tryz.func257, Tryz.ntmps257; go_wp2_with fail; go_loopw [0, 4, 8] (fun sv nv iv wr => ∃ (k v : Nat) (t : ByteArray), k <= 7 /\ iv = .int .i64 k /\ nv = .int .i64 v /\ sv = .string t /\ v < 2 ^ k /\ Hid (Tt.wkGo 7 0 s.data.toList = Tt.wkGo (7 - k) v t.data.toList) /\ Hid (wr = w)) (fun _ _ iv _ => 7 - (intOf iv).toNat)
 case atStart => exact ⟨0, 0, s, Nat.zero_le _, rfl, rfl, rfl, by decide, Lh rfl, Lh rfl⟩
 case round =>
  obtain ⟨k, v, t, hk, rfl, rfl, rfl, hv, HG, HW⟩ := hrel; by_cases hlt : k < 7
  ·have hki : (k : Int) < 7 := by omega
   have hk0 : (0 : Int) <= 2 * (k : Int) /\ 2 * (k : Int) + 2 <= 14 := by omega
   obtain ⟨P, hP⟩ : ∃ P, P = Lib.hasPrefix t.data.toList (Tt.nameW k) := ⟨_, rfl⟩
   obtain ⟨T1, hT1⟩ : ∃ T1 : ByteArray, T1 = ⟨(Lib.trimPrefix t.data.toList (Tt.nameW k)).toArray⟩ := ⟨_, rfl⟩
   obtain ⟨P2, hP2⟩ : ∃ P, P = Lib.hasPrefix T1.data.toList [44] := ⟨_, rfl⟩
   obtain ⟨T2, hT2⟩ : ∃ q : ByteArray, q = ⟨(Lib.trimPrefix T1.data.toList [44]).toArray⟩ := ⟨_, rfl⟩
   have HC1 : Hid (∀ W, Calls Tryz.prog 177 #[.string t, .string ((⟨#[77, 79, 84, 85, 87, 69, 84, 72, 70, 82, 83, 65, 83, 85]⟩ : ByteArray).extract (2 * k) (2 * k + 2))] W fun e w' => e = .returned (.tuple #[.string T1, .bool P]) /\ w' = W) := Lh (fun W => by
    rw [Tt.name_cut hlt, hT1, hP]; exact Tryz.strings_CutPrefix t ⟨(Tt.nameW k).toArray⟩ W)
   have HC2 : Hid (∀ W, Calls Tryz.prog 177 #[.string T1, .string ⟨#[44]⟩] W fun e w' => e = .returned (.tuple #[.string T2, .bool P2]) /\ w' = W) := Lh (fun W => by
    rw [hT2, hP2]; exact Tryz.strings_CutPrefix T1 ⟨#[44]⟩ W)
   have HST := Lh (show Tt.wkGo (7 - k) v t.data.toList = if P = true then (if P2 = true then Tt.wkGo (7 - (k + 1)) ((v : Int) + 2 ^ k) T2.data.toList else ((v : Int) + 2 ^ k, T1.data.toList)) else Tt.wkGo (7 - (k + 1)) v t.data.toList from by
    rw [show 7 - k = (6 - k) + 1 by omega, Tt.wkGo, show 6 - (6 - k) = k by omega, show 7 - (k + 1) = 6 - k by omega, <- hP, hP2, hT2, hT1])
   have hor := Tt.or_bit k hlt v hv; have hp2 : 2 ^ (k + 1) = 2 ^ k + 2 ^ k := by rw [Nat.pow_succ]; omega
   have hv2 : v + 2 ^ k < 2 ^ (k + 1) := by omega
   have hv3 : v < 2 ^ (k + 1) := by omega
   obtain ⟨v', hv'⟩ : ∃ v', v' = v + 2 ^ k := ⟨_, rfl⟩
   have hvv : (v : Int) + 2 ^ k = (v' : Int) := by rw [hv']; push_cast; rfl
   rw [<- hv'] at hor hv2; rw [hvv] at HST; have hv4 : v' < 128 := Nat.lt_of_lt_of_le hv2 (Nat.pow_le_pow_right (by decide) (show k + 1 <= 7 by omega)); have HOR := Lh hor; clear hP hT1 hP2 hT2 hp2 hor hv' hvv; go_wp2_with fail; refine (HC1.out wr).mono ?_; rintro e w1 ⟨rfl, rfl⟩; cases P
   ·have HG2 := Lh (show Tt.wkGo 7 0 s.data.toList = Tt.wkGo (7 - (k + 1)) v t.data.toList from by rw [HG.out, HST.out]; rfl); clear HG HST HC1 HC2 HOR; go_wp2_with fail; go_roundw
    case rel => exact ⟨k + 1, v, t, by omega, by go_num, rfl, rfl, hv3, HG2, HW⟩
    case measure => simp [intOf]; omega
   ·cases P2
    ·have HG2 := Lh (show Tt.wkGo 7 0 s.data.toList = ((v' : Int), T1.data.toList) from by rw [HG.out, HST.out]; rfl); clear HG HST HC1; go_wp2_with fail; refine (HC2.out _).mono ?_; rintro e w2 ⟨rfl, rfl⟩; rw [HOR.out]; go_wp2_with fail; go_ret2; exact ⟨by rw [HG2.out, Lib.mk_data]; rfl, HW.out⟩
    ·have HG2 := Lh (show Tt.wkGo 7 0 s.data.toList = Tt.wkGo (7 - (k + 1)) v' T2.data.toList from by rw [HG.out, HST.out]; rfl); clear HG HST HC1; go_wp2_with fail; refine (HC2.out _).mono ?_; rintro e w2 ⟨rfl, rfl⟩; rw [HOR.out]; go_wp2_with fail; go_roundw
     case rel => exact ⟨k + 1, v', T2, by omega, by go_num, rfl, rfl, hv2, HG2, HW⟩
     case measure => simp [intOf]; omega
  ·have hk7 : k = 7 := by omega
   have hki : ¬ (k : Int) < 7 := by omega
   have HE := Lh (show Tt.wkGo 7 0 s.data.toList = if (0 : Int) < v then (0, []) else (0, t.data.toList) from by rw [HG.out, hk7]; rfl); clear hk7 HG; by_cases h0 : (0 : Int) < v
   ·have HE2 := Lh (show Tt.wkGo 7 0 s.data.toList = (0, []) from by rw [HE.out, if_pos h0]); go_wp2_with fail; go_ret2; exact ⟨by rw [HE2.out]; rfl, HW.out⟩
   ·have HE2 := Lh (show Tt.wkGo 7 0 s.data.toList = (0, t.data.toList) from by rw [HE.out, if_neg h0]); go_wp2_with fail; go_ret2; exact ⟨by rw [HE2.out, Lib.mk_data]; rfl, HW.out⟩
end Go.Proofs.YtageielcdebjlaaGreatDoor
namespace Tt
open Go
theorem or_any0 : ∀ k : Nat, k < 7 -> ∀ v : Nat, v < 128 -> bits BinOp.or IntKind.i64 (v : Int) (2 ^ k : Int) = ((v ||| 2 ^ k : Nat) : Int) := by decide +kernel
theorem or_any (k : Nat) (h : k < 7) (v : Nat) (hv : v < 128) : bits BinOp.or IntKind.i64 (v : Int) (RowKit.wrap64 (2 ^ k)) = ((v ||| 2 ^ k : Nat) : Int) := by rw [wrap_pow h, or_any0 k h v hv]
theorem or_lt : ∀ k : Nat, k < 7 -> ∀ v : Nat, v < 128 -> v ||| 2 ^ k < 128 := by decide +kernel
def orW (c : List UInt8) (v k : Nat) : Nat := (List.range k).foldl (fun v j => if c = nameW j then v ||| 2 ^ j else v) v
theorem orW_succ (c : List UInt8) (v k : Nat) : orW c v (k + 1) = if c = nameW k then orW c v k ||| 2 ^ k else orW c v k := by
 unfold orW; rw [List.range_succ, List.foldl_append]; rfl
def wdR : Nat -> List UInt8 -> Nat -> Nat
 | 0, _, v => v
 | n + 1, l, v => if 2 <= l.length then wdR n (l.drop 3) (orW (l.take 2) v 7) else v
theorem wdR_go {n : Nat} {l : List UInt8} (v : Nat) (h : 2 <= l.length) (hn : 0 < n) : wdR n l v = wdR (n - 1) (l.drop 3) (orW (l.take 2) v 7) := by
 cases n with
 | zero => omega
 | succ n => rw [wdR, if_pos h]; rfl
theorem wdR_end {n : Nat} {l : List UInt8} (v : Nat) (h : l.length < 2) : wdR n l v = v := by
 cases n with
 | zero => rfl
 | succ n => rw [wdR, if_neg (by omega)]
def numS (l : List UInt8) : Int := if l.all isDig = true then digV l else -1
theorem numS_range (k : Nat) (l : List UInt8) (h : l.length <= k) : -1 <= numS l /\ numS l < (10 ^ k : Nat) := by
 unfold numS; split
 ·rename_i ha
  obtain ⟨h1, h2⟩ := digV_range _ ha; have h3 : 10 ^ l.length <= 10 ^ k := Nat.pow_le_pow_right (by omega) h; omega
 ·have : 0 < 10 ^ k := Nat.pow_pos (by omega); omega
theorem month_in (y : Int) : ∀ j : Nat, j < 12 -> mb y j + mlen y ((j : Int) + 1) <= ylen y := by
 obtain ⟨a0, a1, a2, a3, a4, a5, a6, a7, a8, a9, a10, a11, a12⟩ := mb_all y; obtain ⟨l1, l2, l3, l4, l5, l6, l7, l8, l9, l10, l11, l12⟩ := mlens y; obtain ⟨y0, y1⟩ := ylen_bd y; intro j hj; rcases (show ∀ i : Nat, i < 12 -> (i = 0 ∨ i = 1 ∨ i = 2 ∨ i = 3 ∨ i = 4 ∨ i = 5 ∨ i = 6 ∨ i = 7 ∨ i = 8 ∨ i = 9 ∨ i = 10 ∨ i = 11) by decide) j hj with rfl | rfl | rfl | rfl | rfl | rfl | rfl | rfl | rfl | rfl | rfl | rfl
 ·show mb y 0 + mlen y 1 <= _; omega
 ·show mb y 1 + mlen y 2 <= _; omega
 ·show mb y 2 + mlen y 3 <= _; omega
 ·show mb y 3 + mlen y 4 <= _; omega
 ·show mb y 4 + mlen y 5 <= _; omega
 ·show mb y 5 + mlen y 6 <= _; omega
 ·show mb y 6 + mlen y 7 <= _; omega
 ·show mb y 7 + mlen y 8 <= _; omega
 ·show mb y 8 + mlen y 9 <= _; omega
 ·show mb y 9 + mlen y 10 <= _; omega
 ·show mb y 10 + mlen y 11 <= _; omega
 ·show mb y 11 + mlen y 12 <= _; omega
theorem dayV_in {y m d : Int} (h : (dayV y m d).2 = 0) : 0 <= (dayV y m d).1 /\ (dayV y m d).1 <= 36524 := by
 unfold dayV at h ⊢; split at h
 ·cases h
 ·rename_i hn
  rw [if_neg hn]; have hm := month_in y (m - 1).toNat (by omega); rw [show (((m - 1).toNat : Nat) : Int) + 1 = m by omega] at hm; have hb := mb_bd y (m - 1).toNat; have hy := yb_closed (y - 2000).toNat; have hl : ylen y = if y % 4 = 0 then 366 else 365 := rfl
  show 0 <= yb (y - 2000).toNat + mb y (m - 1).toNat + d - 1 /\ yb (y - 2000).toNat + mb y (m - 1).toNat + d - 1 <= 36524
  split at hl <;> omega
def dayR (t : List UInt8) : Int × Int := dayV (numS ((t.drop (t.length - 8)).take 4)) (numS (((t.drop (t.length - 8)).drop 4).take 2)) (numS ((t.drop (t.length - 8)).drop 6))
def parS (f : Int) (t : List UInt8) : Ser := ⟨f, (dayR t).1, numS ((t.drop 21).take 1), wdR t.length ((t.take (t.length - 15)).drop 29) 0, [], []⟩
def parR (f : Int) (t : List UInt8) : Ser :=
 if isD f = false then ⟨0, 0, 0, 0, [], []⟩
 else if t.length < 44 then ⟨0, 0, 0, 0, [], []⟩
 else if numS ((t.drop 21).take 1) < 0 then ⟨0, 0, 0, 0, [], []⟩
 else if (dayR t).2 ≠ 0 then ⟨0, 0, 0, 0, [], []⟩
 else if ruleL (parS f t) ≠ t then ⟨0, 0, 0, 0, [], []⟩
 else if serV (parS f t) ≠ 0 then ⟨0, 0, 0, 0, [], []⟩
 else parS f t
end Tt
namespace Go.Proofs.YtageielcdebjlaaGreatDoor
open Go.RowKit
theorem number263 (s : ByteArray) (w : World) (hs : s.size <= 9) :
  Calls Tryz.prog 263 #[.string s] w fun e w' => e = .returned (.int .i64 (Tt.numS s.data.toList)) /\ w' = w := by
 have HSZ := Lh (Lib.size_eq s); obtain ⟨N, hN⟩ : ∃ N, N = Tt.numS s.data.toList := ⟨_, rfl⟩
 have HN := Lh hN; rw [<- hN]; clear hN; go_enter Tryz.func263, Tryz.ntmps263; go_wp2_with fail; go_loopw [3, 4] (fun nv iv wr => ∃ (k : Nat) (v : Int), k <= s.size /\ iv = .int .i64 k /\ nv = .int .i64 v /\ Hid ((s.data.toList.take k).all Tt.isDig = true) /\ Hid (k <= 9 -> v = Tt.digV (s.data.toList.take k)) /\ Hid (wr = w)) (fun _ iv _ => s.size - (intOf iv).toNat)
 case atStart => exact ⟨0, 0, Nat.zero_le _, rfl, rfl, Lh rfl, Lh (fun _ => rfl), Lh rfl⟩
 case round =>
  obtain ⟨k, v, hk, rfl, rfl, HA, HV, HW⟩ := hrel; have hsz := HSZ.out; by_cases hlt : k < s.size
  ·have hki : (k : Int) < s.size := by omega
   obtain ⟨c, hc⟩ : ∃ c : UInt8, s[k]'hlt = c := ⟨_, rfl⟩
   have hcl : s.data.toList[k]? = some c := by rw [<- hc]; exact Lib.data_getElem? s k hlt
   have HT := Lh (show s.data.toList.take (k + 1) = s.data.toList.take k ++ [c] from by
    obtain ⟨h1, h2⟩ := List.getElem?_eq_some_iff.1 hcl; rw [List.take_succ_eq_append_getElem h1, h2])
   obtain ⟨n, hn⟩ : ∃ n : Int, n = c.toNat := ⟨_, rfl⟩
   by_cases h0 : n < 48
   ·have hq0 : (c.toNat : Int) < 48 := by omega
    have HR := Lh (show N = -1 from by
     rw [HN.out]; unfold Tt.numS; rw [if_neg]; intro h; have h1 := List.all_eq_true.1 h c (List.mem_of_getElem? hcl); unfold Tt.isDig at h1; simp at h1; omega)
    clear hcl hn hsz; go_wp2_with fail; go_ret; exact ⟨by rw [HR.out]; rfl, HW.out⟩
   ·have hq0 : ¬ (c.toNat : Int) < 48 := by omega
    by_cases h1 : 57 < n
    ·have hq1 : 57 < (c.toNat : Int) := by omega
     have HR := Lh (show N = -1 from by
      rw [HN.out]; unfold Tt.numS; rw [if_neg]; intro h; have h1 := List.all_eq_true.1 h c (List.mem_of_getElem? hcl); unfold Tt.isDig at h1; simp at h1; omega)
     clear hcl hn hsz; go_wp2_with fail; go_ret; exact ⟨by rw [HR.out]; rfl, HW.out⟩
    ·have hq1 : ¬ 57 < (c.toNat : Int) := by omega
     have hd : Tt.isDig c = true := by unfold Tt.isDig; simp; omega
     have HA2 := Lh (show (s.data.toList.take (k + 1)).all Tt.isDig = true from by rw [HT.out, List.all_append, HA.out]; simpa using hd); have HV2 := Lh (show k + 1 <= 9 -> wrap64 (wrap64 (10 * v) + ((c.toNat : Int) - 48)) = Tt.digV (s.data.toList.take (k + 1)) from fun h9 => by
      have hv := HV.out (by omega); obtain ⟨r1, r2⟩ := Tt.digV_range _ HA.out; have hl : (s.data.toList.take k).length <= 8 := by rw [List.length_take]; omega
      have hp : 10 ^ (s.data.toList.take k).length <= 10 ^ 8 := Nat.pow_le_pow_right (by omega) hl; have hp8 : (10 ^ 8 : Nat) = 100000000 := by decide
      rw [HT.out, Tt.digV_snoc, <- hv]; rw [<- hv] at r1 r2; unfold RowKit.wrap64; omega)
     clear hcl hd hn h0 h1 hsz; go_wp2_with fail; go_roundw
     case rel => exact ⟨k + 1, _, by omega, by go_num, rfl, HA2, HV2, HW⟩
     case measure => simp [intOf]; omega
  ·have hkn : k = s.size := by omega
   have hki : ¬ (k : Int) < s.size := by omega
   have hall : s.data.toList.take k = s.data.toList := by rw [List.take_of_length_le]; omega
   have HR := Lh (show N = v from by
    rw [HN.out]; unfold Tt.numS; have h2 := HA.out; have h3 := HV.out (by omega); rw [hall] at h2 h3; rw [if_pos h2, h3])
   clear hall hsz hkn; go_wp2_with fail; go_ret; exact ⟨by rw [HR.out]; rfl, HW.out⟩
theorem text181 (b g o cap : Nat) (xs : List ByteArray) (z s : ByteArray) (bad : Bool) (w : World) (hpar : Par b g o cap xs z bad w) (hg : g < w.heap.size) (hs : s.size <= 70368744177664) :
  Calls Tryz.prog 181 #[.pointer (some ⟨b, 0, none⟩), .string s] w fun e w' => e = .returned (.string (unescS s.data.toList)) /\ Par b g o cap xs z (bad || !unescB s.data.toList) w' /\ But b w.heap.size w w' := by
 have HU := unescape_any s w hs; obtain ⟨U, hU⟩ : ∃ U, U = unescB s.data.toList := ⟨_, rfl⟩
 obtain ⟨T, hT⟩ : ∃ T, T = unescS s.data.toList := ⟨_, rfl⟩
 rw [<- hU, <- hT] at HU ⊢; have HUU := Lh HU; clear HU hU hT; go_enter Tryz.func181, Tryz.ntmps181; go_wp2_with fail; refine HUU.out.mono ?_; rintro e w1 ⟨rfl, hbel⟩; have hp1 := hpar.below hbel hg; have c2 := hp1.c2; have hf := hp1.f0 2; clear hpar HUU; cases bad <;> cases U
 all_goals
  go_wp2_with fail; go_ret; exact ⟨rfl, hp1.set2 _, (But.of_below (b := b) hbel).trans ((only_set w1 b 2 _).but)⟩
end Go.Proofs.YtageielcdebjlaaGreatDoor
namespace Go.Proofs
open Go.Shelf Go.RowKit
theorem Tryz.laysC172 : Go.Proofs.LaysC.n172 Tryz.prog Tryz.lays172_ren := {
 Tryz.lays172 with
 t80 := Tryz.underlying146
 a80 := Tryz.isAgg146
 z80 := Tryz.sizeOf146
 v80 := Tryz.zeroValue146
 i0 := by kernel_rfl
 i2 := by kernel_rfl
 i3 := by kernel_rfl
 i4 := by kernel_rfl
 i5 := by kernel_rfl
 i9 := by kernel_rfl
 i20 := by kernel_rfl
 i21 := by kernel_rfl
 i37 := by kernel_rfl
 i46 := by kernel_rfl
 i51 := by kernel_rfl
 i53 := by kernel_rfl
 i75 := by kernel_rfl
 i76 := by kernel_rfl
 i80 := by kernel_rfl
 i85 := by kernel_rfl
 i127 := by kernel_rfl
 i143 := by kernel_rfl
 i145 := by kernel_rfl
 i167 := by kernel_rfl
 i168 := by kernel_rfl
 i171 := by kernel_rfl
 i173 := by kernel_rfl
 i175 := by kernel_rfl
 i210 := by kernel_rfl
 i212 := by kernel_rfl
 i232 := by kernel_rfl
 i233 := by kernel_rfl
 m15 := by kernel_rfl
 m16 := by kernel_rfl
 m17 := by kernel_rfl
 m18 := by kernel_rfl
 m19 := by kernel_rfl
 c0 := by kernel_rfl
 c2 := by kernel_rfl
 c3 := by kernel_rfl
 c4 := by kernel_rfl
 c5 := by kernel_rfl
 c9 := by kernel_rfl
 c20 := by kernel_rfl
 c21 := by kernel_rfl
 c37 := by kernel_rfl
 c46 := by kernel_rfl
 c51 := by kernel_rfl
 c53 := by kernel_rfl
 c75 := by kernel_rfl
 c76 := by kernel_rfl
 c80 := by kernel_rfl
 c85 := by kernel_rfl
 c127 := by kernel_rfl
 c143 := by kernel_rfl
 c145 := by kernel_rfl
 c167 := by kernel_rfl
 c168 := by kernel_rfl
 c171 := by kernel_rfl
 c173 := by kernel_rfl
 c175 := by kernel_rfl
 c210 := by kernel_rfl
 c212 := by kernel_rfl
 c213 := by kernel_rfl
 c232 := by kernel_rfl
 c233 := by kernel_rfl
}
theorem Tryz.strconv_Atoi_ok (s : ByteArray) (hmax : s.size <= 9223372036854775806) (v : Int) (h : Lib.atoiAll s.data.toList = .ok v) (w : World) :
  Calls Tryz.prog 176 #[.string s] w fun e w' => e = .returned (.tuple #[.int .i64 v, .nilIface]) /\ (w' = w ∨ ∃ t, w' = Lib.bytesWorld w 5 t) := Any.strconv_Atoi_ok Tryz.laysC172 s hmax v h w
theorem Tryz.strconv_Atoi_bad (s : ByteArray) (hlim : s.size <= 281474976710656) (h0 : ∀ v, Lib.atoiAll s.data.toList ≠ .ok v) (h1 : Lib.atoiAll s.data.toList ≠ .range) (ev : Value) (w : World) (hv : w.cell? ⟨1, 0, none⟩ = some ev) (hev : ev = .nilIface ∨ ∃ te pe, ev = .iface te pe) :
  Calls Tryz.prog 176 #[.string s] w fun e w' => ∃ N, e = .returned (.tuple #[.int .i64 (0), .iface 303 (.pointer (some ⟨N, 0, none⟩))]) /\ w.heap.size <= N /\ w'.heap[N]? = some (.cells #[.string ⟨#[65, 116, 111, 105]⟩, .string s, ev] 322 (0, 0)) /\ Below w.heap.size w w' := by
 cases h : Lib.atoiAll s.data.toList
 ·exact absurd h (h0 _)
 ·first | exact absurd h h1 | exact Any.strconv_Atoi_syntax Tryz.laysC172 s hlim h ev w hv hev
 ·first | exact absurd h h1 | exact Any.strconv_Atoi_syntax Tryz.laysC172 s hlim h ev w hv hev
theorem Tryz.strconv_Atoi_range (s : ByteArray) (hlim : s.size <= 281474976710656) (h : Lib.atoiAll s.data.toList = .range) (ev : Value) (w : World) (hv : w.cell? ⟨2, 0, none⟩ = some ev) (hev : ev = .nilIface ∨ ∃ te pe, ev = .iface te pe) :
  Calls Tryz.prog 176 #[.string s] w fun e w' => ∃ N, e = .returned (.tuple #[.int .i64 (Lib.atoiSat s.data.toList), .iface 303 (.pointer (some ⟨N, 0, none⟩))]) /\ w.heap.size <= N /\ w'.heap[N]? = some (.cells #[.string ⟨#[65, 116, 111, 105]⟩, .string s, ev] 322 (0, 0)) /\ Below w.heap.size w w' := Any.strconv_Atoi_range Tryz.laysC172 s hlim h ev w hv hev
end Go.Proofs
