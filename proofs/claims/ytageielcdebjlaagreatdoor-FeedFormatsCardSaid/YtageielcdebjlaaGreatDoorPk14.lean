/- The program's weekdays (function 257): exact. Names of weekdays written and read again. A text cut at commas; the numbers in a stamp. The program's date (function 258) on the text of a day. Events in memory; feed.check and timetableref40.faultBehind: their contracts. -/
import Derived.Test.YtageielcdebjlaaGreatDoorPk13
import Derived.Test.YtageielcdebjlaaGreatDoorParseAll
import Derived.Test.YtageielcdebjlaaGreatDoorPk7
import Derived.Test.YtageielcdebjlaaGreatDoorDaysAll
import Derived.Test.YtageielcdebjlaaGreatDoorUidAll
namespace Tt
open Go Go.Lib
/-- Names of weekdays in order, read: f weekdays are left. -/
def wkGo : Nat → Int → List UInt8 → Int × List UInt8
  | 0, set, s => if 0 < set then (0, []) else (0, s)
  | f + 1, set, s =>
    if hasPrefix s (nameW (6 - f)) = true then
      (if hasPrefix (trimPrefix s (nameW (6 - f))) [44] = true then wkGo f (set + 2 ^ (6 - f)) (trimPrefix (trimPrefix s (nameW (6 - f))) [44]) else (set + 2 ^ (6 - f), trimPrefix s (nameW (6 - f))))
    else wkGo f set s
theorem or_bit0 : ∀ k : Nat, k < 7 → ∀ v : Nat, v < 2 ^ k → bits BinOp.or IntKind.i64 (v : Int) (2 ^ k : Int) = (v : Int) + 2 ^ k := by decide
theorem wrap_pow {k : Nat} (h : k < 7) : RowKit.wrap64 (2 ^ k) = 2 ^ k := by
  match k, h with
  | 0, _ | 1, _ | 2, _ | 3, _ | 4, _ | 5, _ | 6, _ => (unfold RowKit.wrap64; omega)
theorem or_bit (k : Nat) (h : k < 7) (v : Nat) (hv : v < 2 ^ k) : bits BinOp.or IntKind.i64 (v : Int) (RowKit.wrap64 (2 ^ k)) = ((v + 2 ^ k : Nat) : Int) := by
  rw [wrap_pow h, or_bit0 k h v hv]; push_cast; rfl
theorem name_cut {k : Nat} (h : k < 7) : (⟨#[77, 79, 84, 85, 87, 69, 84, 72, 70, 82, 83, 65, 83, 85]⟩ : ByteArray).extract (2 * k) (2 * k + 2) = ⟨(nameW k).toArray⟩ := by
  refine Go.Proofs.YtageielcdebjlaaGreatDoor.mk_bytes ?_
  rw [Lib.extract_data]
  match k, h with
  | 0, _ | 1, _ | 2, _ | 3, _ | 4, _ | 5, _ | 6, _ => rfl
end Tt
namespace Go.Proofs.YtageielcdebjlaaGreatDoor
open Go.RowKit

set_option maxHeartbeats 4000000 in
set_option maxRecDepth 100000 in
theorem weekdays257 (s : ByteArray) (w : World) :
    Calls Tryz.prog 257 #[.string s] w fun e w' => e = .returned (.tuple #[.int .i64 (Tt.wkGo 7 0 s.data.toList).1, .string ⟨(Tt.wkGo 7 0 s.data.toList).2.toArray⟩]) ∧ w' = w := by
  go_enter Tryz.func257, Tryz.ntmps257
  go_wp2_with fail
  go_loopw [0, 4, 8] (fun sv nv iv wr => ∃ (k v : Nat) (t : ByteArray), k ≤ 7 ∧ iv = .int .i64 k ∧ nv = .int .i64 v ∧ sv = .string t ∧ v < 2 ^ k ∧ Hid (Tt.wkGo 7 0 s.data.toList = Tt.wkGo (7 - k) v t.data.toList) ∧ Hid (wr = w)) (fun _ _ iv _ => 7 - (intOf iv).toNat)
  case atStart => exact ⟨0, 0, s, Nat.zero_le _, rfl, rfl, rfl, by decide, Lib.hid rfl, Lib.hid rfl⟩
  case round =>
    obtain ⟨k, v, t, hk, rfl, rfl, rfl, hv, HG, HW⟩ := hrel; by_cases hlt : k < 7
    · have hki : (k : Int) < 7 := by omega
      have hk0 : (0 : Int) ≤ 2 * (k : Int) ∧ 2 * (k : Int) + 2 ≤ 14 := by omega
      obtain ⟨P, hP⟩ : ∃ P, P = Lib.hasPrefix t.data.toList (Tt.nameW k) := ⟨_, rfl⟩
      obtain ⟨T1, hT1⟩ : ∃ T1 : ByteArray, T1 = ⟨(Lib.trimPrefix t.data.toList (Tt.nameW k)).toArray⟩ := ⟨_, rfl⟩
      obtain ⟨P2, hP2⟩ : ∃ P, P = Lib.hasPrefix T1.data.toList [44] := ⟨_, rfl⟩
      obtain ⟨T2, hT2⟩ : ∃ q : ByteArray, q = ⟨(Lib.trimPrefix T1.data.toList [44]).toArray⟩ := ⟨_, rfl⟩
      have HC1 : Hid (∀ W, Calls Tryz.prog 177 #[.string t, .string ((⟨#[77, 79, 84, 85, 87, 69, 84, 72, 70, 82, 83, 65, 83, 85]⟩ : ByteArray).extract (2 * k) (2 * k + 2))] W fun e w' => e = .returned (.tuple #[.string T1, .bool P]) ∧ w' = W) := Lib.hid (fun W => by
        rw [Tt.name_cut hlt, hT1, hP]
        exact Tryz.strings_CutPrefix t ⟨(Tt.nameW k).toArray⟩ W)
      have HC2 : Hid (∀ W, Calls Tryz.prog 177 #[.string T1, .string ⟨#[44]⟩] W fun e w' => e = .returned (.tuple #[.string T2, .bool P2]) ∧ w' = W) := Lib.hid (fun W => by
        rw [hT2, hP2]
        exact Tryz.strings_CutPrefix T1 ⟨#[44]⟩ W)
      have HST := Lib.hid (show Tt.wkGo (7 - k) v t.data.toList = if P = true then (if P2 = true then Tt.wkGo (7 - (k + 1)) ((v : Int) + 2 ^ k) T2.data.toList else ((v : Int) + 2 ^ k, T1.data.toList)) else Tt.wkGo (7 - (k + 1)) v t.data.toList from by
        rw [show 7 - k = (6 - k) + 1 by omega, Tt.wkGo, show 6 - (6 - k) = k by omega, show 7 - (k + 1) = 6 - k by omega, ← hP, hP2, hT2, hT1])
      have hor := Tt.or_bit k hlt v hv; have hp2 : 2 ^ (k + 1) = 2 ^ k + 2 ^ k := by rw [Nat.pow_succ]; omega
      have hv2 : v + 2 ^ k < 2 ^ (k + 1) := by omega
      have hv3 : v < 2 ^ (k + 1) := by omega
      obtain ⟨v', hv'⟩ : ∃ v', v' = v + 2 ^ k := ⟨_, rfl⟩
      have hvv : (v : Int) + 2 ^ k = (v' : Int) := by rw [hv']; push_cast; rfl
      rw [← hv'] at hor hv2
      rw [hvv] at HST
      have hv4 : v' < 128 := Nat.lt_of_lt_of_le hv2 (Nat.pow_le_pow_right (by decide) (show k + 1 ≤ 7 by omega))
      have HOR := Lib.hid hor; clear hP hT1 hP2 hT2 hp2 hor hv' hvv; go_wp2_with fail
      refine (HC1.out wr).mono ?_
      rintro e w1 ⟨rfl, rfl⟩; cases P
      · have HG2 := Lib.hid (show Tt.wkGo 7 0 s.data.toList = Tt.wkGo (7 - (k + 1)) v t.data.toList from by rw [HG.out, HST.out]; rfl)
        clear HG HST HC1 HC2 HOR; go_wp2_with fail
        go_roundw
        case rel => exact ⟨k + 1, v, t, by omega, by go_num, rfl, rfl, hv3, HG2, HW⟩
        case measure => simp [intOf]; omega
      · cases P2
        · have HG2 := Lib.hid (show Tt.wkGo 7 0 s.data.toList = ((v' : Int), T1.data.toList) from by rw [HG.out, HST.out]; rfl)
          clear HG HST HC1; go_wp2_with fail
          refine (HC2.out _).mono ?_
          rintro e w2 ⟨rfl, rfl⟩; rw [HOR.out]
          go_wp2_with fail
          go_ret2
          exact ⟨by rw [HG2.out, Lib.mk_data]; rfl, HW.out⟩
        · have HG2 := Lib.hid (show Tt.wkGo 7 0 s.data.toList = Tt.wkGo (7 - (k + 1)) v' T2.data.toList from by rw [HG.out, HST.out]; rfl)
          clear HG HST HC1; go_wp2_with fail
          refine (HC2.out _).mono ?_
          rintro e w2 ⟨rfl, rfl⟩; rw [HOR.out]
          go_wp2_with fail
          go_roundw
          case rel => exact ⟨k + 1, v', T2, by omega, by go_num, rfl, rfl, hv2, HG2, HW⟩
          case measure => simp [intOf]; omega
    · have hk7 : k = 7 := by omega
      have hki : ¬ (k : Int) < 7 := by omega
      have HE := Lib.hid (show Tt.wkGo 7 0 s.data.toList = if (0 : Int) < v then (0, []) else (0, t.data.toList) from by rw [HG.out, hk7]; rfl)
      clear hk7 HG; by_cases h0 : (0 : Int) < v
      · have HE2 := Lib.hid (show Tt.wkGo 7 0 s.data.toList = (0, []) from by rw [HE.out, if_pos h0])
        go_wp2_with fail
        go_ret2
        exact ⟨by rw [HE2.out]; rfl, HW.out⟩
      · have HE2 := Lib.hid (show Tt.wkGo 7 0 s.data.toList = (0, t.data.toList) from by rw [HE.out, if_neg h0])
        go_wp2_with fail
        go_ret2
        exact ⟨by rw [HE2.out, Lib.mk_data]; rfl, HW.out⟩
end Go.Proofs.YtageielcdebjlaaGreatDoor
namespace Tt
set_option maxRecDepth 100000 in
set_option maxHeartbeats 4000000 in
theorem wk_back' (r : List UInt8) (a b c : Nat) (ha : a < 8) (hb : b < 4) (hc : c < 4) : wkGo 7 0 (byL ((16 * a + 4 * b + c : Nat) : Int) 7 ++ 59 :: r) = (((16 * a + 4 * b + c : Nat) : Int), 59 :: r) := by
  match a, ha with
  | 0, _ | 1, _ | 2, _ | 3, _ | 4, _ | 5, _ | 6, _ | 7, _ =>
    match b, hb with
    | 0, _ | 1, _ | 2, _ | 3, _ =>
      match c, hc with
      | 0, _ | 1, _ | 2, _ | 3, _ => show _ = _; kernel_rfl
theorem wk_back (r : List UInt8) {n : Int} (h0 : 0 ≤ n) (h1 : n < 128) : wkGo 7 0 (byL n 7 ++ 59 :: r) = (n, 59 :: r) := by
  have h := wk_back' r (n.toNat / 16) (n.toNat / 4 % 4) (n.toNat % 4) (by omega) (by omega) (by omega)
  rwa [show ((16 * (n.toNat / 16) + 4 * (n.toNat / 4 % 4) + n.toNat % 4 : Nat) : Int) = n from by omega] at h
end Tt
namespace Tt
open Go Go.Lib Go.Proofs.YtageielcdebjlaaGreatDoor

theorem indexByte_app (c : UInt8) (r : List UInt8) : ∀ a : List UInt8, c ∉ a → indexByte (a ++ c :: r) c = a.length
  | [], _ => by rw [List.nil_append, indexByte]; simp
  | b :: a, h => by
    have h1 : b ≠ c := fun e => h (by rw [e]; exact List.mem_cons_self ..)
    have ih := indexByte_app c r a (fun m => h (List.mem_cons_of_mem _ m))
    rw [List.cons_append, indexByte, ih, if_neg (by simpa using h1), if_neg (by rw [beq_iff_eq]; omega), List.length_cons]; omega
theorem split_app (c : UInt8) (a r : List UInt8) (h : c ∉ a) : split (a ++ c :: r) [c] = a :: split r [c] := by
  have hc : (a ++ c :: r).count c = r.count c + 1 := by
    rw [List.count_append, List.count_eq_zero_of_not_mem h, List.count_cons_self]; omega
  have hi : index (a ++ c :: r) [c] = a.length := by rw [index_one, indexByte_app c r a h]
  unfold split
  rw [count_one, count_one, hc, splitK, hi, if_neg (by rw [beq_iff_eq]; omega)]
  rw [show ((a.length : Int).toNat + 0) = a.length from by omega, List.take_left, show ((a.length : Int).toNat + [c].length) = (a ++ [c]).length from by simp, show a ++ c :: r = (a ++ [c]) ++ r from by simp, List.drop_left]
theorem split_last (c : UInt8) (a : List UInt8) (h : c ∉ a) : split a [c] = [a] := by
  unfold split
  rw [count_one, List.count_eq_zero_of_not_mem h]; rfl
theorem ofNat_ne {n : Nat} (h : n < 10) : UInt8.ofNat (48 + n) ≠ 44 := by
  match n, h with
  | 0, _ | 1, _ | 2, _ | 3, _ | 4, _ | 5, _ | 6, _ | 7, _ | 8, _ | 9, _ => decide
theorem stamp_comma {day start : Int} (hy : (yOf day).toNat < 10000) (hm : (mOf day).toNat < 100) (hd : (dOf day).toNat < 100) (h0 : 0 ≤ start) (h1 : start < 1440) : (44 : UInt8) ∉ stampL day start := by
  intro h; simp only [stampL, dateL, d4, d2, List.mem_append, List.mem_cons, List.not_mem_nil, or_false] at h
  have e : ∀ n : Nat, n < 10 → (44 : UInt8) ≠ UInt8.ofNat (48 + n) := fun n hn e => ofNat_ne hn e.symm
  rcases h with ((((((h | h | h | h) | h | h) | h | h) | h) | h | h) | h | h) | h | h
  all_goals first
    | exact absurd h (by decide)
    | exact e _ (by omega) h
theorem stampsL_split (start : Int) (h0 : 0 ≤ start) (h1 : start < 1440) : ∀ ds : List Int, ds ≠ [] → (∀ d ∈ ds, 0 ≤ d ∧ d ≤ 36524) → split (stampsL start ds) [44] = ds.map fun d => stampL d start
  | [], h, _ => absurd rfl h
  | [d], _, hd => by
    obtain ⟨y0, y1, m0, m1, d0, d1⟩ := date_toNat (hd d (List.mem_cons_self ..)).1 (hd d (List.mem_cons_self ..)).2
    exact split_last _ _ (stamp_comma (by omega) (by omega) (by omega) h0 h1)
  | d :: e :: r, _, hd => by
    obtain ⟨y0, y1, m0, m1, d0, d1⟩ := date_toNat (hd d (List.mem_cons_self ..)).1 (hd d (List.mem_cons_self ..)).2
    rw [stampsL, split_app _ _ _ (stamp_comma (by omega) (by omega) (by omega) h0 h1), stampsL_split start h0 h1 (e :: r) (by simp) (fun x hx => hd x (List.mem_cons_of_mem _ hx))]; rfl
theorem atoi_d2 : ∀ n : Nat, n < 100 → Lib.atoi (d2 n) = some (n : Int) := by decide
set_option maxRecDepth 10000 in
theorem atoi_d4' : ∀ n : Nat, n < 100 → Lib.atoi (d4 (2000 + n)) = some ((2000 + n : Nat) : Int) := by decide
theorem atoi_d4 {n : Nat} (h0 : 2000 ≤ n) (h1 : n ≤ 2099) : Lib.atoi (d4 n) = some (n : Int) := by
  have := atoi_d4' (n - 2000) (by omega)
  rwa [show 2000 + (n - 2000) = n from by omega] at this
end Tt
namespace Go.Proofs.YtageielcdebjlaaGreatDoor
theorem splitB_stamps {s : ByteArray} {start : Int} {ds : List Int} (hs : s.data.toList = Tt.stampsL start ds) (hne : ds ≠ []) (hd : ∀ d ∈ ds, 0 ≤ d ∧ d ≤ 36524) (h0 : 0 ≤ start) (h1 : start < 1440) :
    Lib.splitB ⟨#[44]⟩ 0 (Lib.countB s ⟨#[44]⟩) s = ds.map fun d => str (Tt.stampL d start) := by
  refine map_data_inj ?_
  rw [Lib.splitB_data, List.map_map]
  show Lib.split s.data.toList [44] = _
  rw [hs, Tt.stampsL_split start h0 h1 ds hne hd]; rfl
end Go.Proofs.YtageielcdebjlaaGreatDoor
namespace Tt
theorem ofNat_toNat {n : Nat} (h : n < 10) : ((UInt8.ofNat (48 + n)).toNat : Int) = 48 + n := by
  rw [UInt8.toNat_ofNat']; omega
/-- The digits of a date, in order. -/
theorem date_digit {d : Int} {y m e X : Nat} (hy : y = (yOf d).toNat) (hm : m = (mOf d).toNat) (he : e = (dOf d).toNat) (y0 : 2000 ≤ y) (y1 : y ≤ 2099) (m1 : m ≤ 12) (e1 : e ≤ 31) (hX : X = y * 10000 + m * 100 + e) {k : Nat} (hk : k < 8) :
    ∃ c, (dateL d)[k]? = some c ∧ ((c.toNat : Int) = 48 + ((X / 10 ^ (7 - k) % 10 : Nat) : Int)) ∧ X / 10 ^ (8 - (k + 1)) = 10 * (X / 10 ^ (8 - k)) + X / 10 ^ (7 - k) % 10 := by
  unfold dateL d4 d2
  rw [← hy, ← hm, ← he]; match k, hk with
  | 0, _ => exact ⟨_, rfl, by rw [ofNat_toNat (by omega)]; simp only [Nat.sub_zero, Nat.reducePow]; omega, by simp only [Nat.sub_zero, Nat.reduceAdd, Nat.reduceSub, Nat.reducePow]; omega⟩
  | 1, _ => exact ⟨_, rfl, by rw [ofNat_toNat (by omega)]; simp only [Nat.reduceSub, Nat.reducePow]; omega, by simp only [Nat.reduceAdd, Nat.reduceSub, Nat.reducePow]; omega⟩
  | 2, _ => exact ⟨_, rfl, by rw [ofNat_toNat (by omega)]; simp only [Nat.reduceSub, Nat.reducePow]; omega, by simp only [Nat.reduceAdd, Nat.reduceSub, Nat.reducePow]; omega⟩
  | 3, _ => exact ⟨_, rfl, by rw [ofNat_toNat (by omega)]; simp only [Nat.reduceSub, Nat.reducePow]; omega, by simp only [Nat.reduceAdd, Nat.reduceSub, Nat.reducePow]; omega⟩
  | 4, _ => exact ⟨_, rfl, by rw [ofNat_toNat (by omega)]; simp only [Nat.reduceSub, Nat.reducePow]; omega, by simp only [Nat.reduceAdd, Nat.reduceSub, Nat.reducePow]; omega⟩
  | 5, _ => exact ⟨_, rfl, by rw [ofNat_toNat (by omega)]; simp only [Nat.reduceSub, Nat.reducePow]; omega, by simp only [Nat.reduceAdd, Nat.reduceSub, Nat.reducePow]; omega⟩
  | 6, _ => exact ⟨_, rfl, by rw [ofNat_toNat (by omega)]; simp only [Nat.reduceSub, Nat.reducePow]; omega, by simp only [Nat.reduceAdd, Nat.reduceSub, Nat.reducePow]; omega⟩
  | 7, _ => exact ⟨_, rfl, by rw [ofNat_toNat (by omega)]; simp only [Nat.reduceSub, Nat.reducePow]; omega, by simp only [Nat.reduceAdd, Nat.reduceSub, Nat.reducePow]; omega⟩
end Tt
namespace Go.Proofs.YtageielcdebjlaaGreatDoor
open Go.RowKit

set_option maxHeartbeats 4000000 in
set_option maxRecDepth 100000 in
theorem date258 (s : ByteArray) (d : Int) (w : World) (hs : s.data.toList = Tt.dateL d) (h0 : 0 ≤ d) (h1 : d ≤ 36524) (hL : Lens w) (hw : 3 < w.heap.size) :
    Calls Tryz.prog 258 #[.string s] w fun e w' => e = .returned (.tuple #[.int .i64 d, .bool true]) ∧ Below w.heap.size w w' := by
  obtain ⟨y0, y1, m0, m1, d0, d1⟩ := Tt.date_toNat h0 h1
  have hdv := (Tt.date_some h0 h1).day
  have zs : s.size = 8 := by rw [Lib.size_eq, hs]; rfl
  obtain ⟨cap, W, hconv, hb0, hsz, hcell⟩ := bytes_of s w
  obtain ⟨y, hy⟩ : ∃ y, y = (Tt.yOf d).toNat := ⟨_, rfl⟩
  obtain ⟨m, hm⟩ : ∃ y, y = (Tt.mOf d).toNat := ⟨_, rfl⟩
  obtain ⟨q, hq⟩ : ∃ y, y = (Tt.dOf d).toNat := ⟨_, rfl⟩
  obtain ⟨X, hX⟩ : ∃ X, X = y * 10000 + m * 100 + q := ⟨_, rfl⟩
  have HDG : Hid (∀ k, k < 8 → ∃ c : UInt8, s.data.toList[k]? = some c ∧ ((c.toNat : Int) = 48 + ((X / 10 ^ (7 - k) % 10 : Nat) : Int)) ∧ X / 10 ^ (8 - (k + 1)) = 10 * (X / 10 ^ (8 - k)) + X / 10 ^ (7 - k) % 10) := Lib.hid (fun k hk => by rw [hs]; exact Tt.date_digit hy hm hq (by omega) (by omega) (by omega) (by omega) hX hk)
  have HDV := Lib.hid (show Tt.dayV ((X : Int) / 10000) ((X : Int) / 100 % 100) ((X : Int) % 100) = (d, 0) from by
    rw [show (X : Int) / 10000 = Tt.yOf d by omega, show (X : Int) / 100 % 100 = Tt.mOf d by omega, show (X : Int) % 100 = Tt.dOf d by omega]; exact hdv)
  have hXb : X ≤ 20991231 := by omega
  have HW := Lib.hid hb0; have HCE := Lib.hid hcell; have HLW := Lib.hid (hL.below hw hb0)
  clear hdv hs hL hy hm hq hX y0 y1 m0 m1 d0 d1 hb0 hcell; go_enter Tryz.func258, Tryz.ntmps258
  go_wp2_with fail
  clear hconv; go_loopw [4, 15] (fun nv iv wr => ∃ (k v : Nat), k ≤ 8 ∧ iv = .int .i64 k ∧ nv = .int .i64 v ∧ v ≤ X ∧ Hid (v = X / 10 ^ (8 - k)) ∧ Hid (wr = W)) (fun _ iv _ => 8 - (intOf iv).toNat)
  case atStart => exact ⟨0, 0, Nat.zero_le _, rfl, rfl, Nat.zero_le _, Lib.hid (by show 0 = X / 100000000; omega), Lib.hid rfl⟩
  case round =>
    obtain ⟨k, v, hk, rfl, rfl, hv, HV, HWR⟩ := hrel; by_cases hlt : k < 8
    · obtain ⟨c, hc, hcn, hst⟩ := HDG.out k hlt
      have hcc := HCE.out k c hc; rw [← HWR.out] at hcc
      obtain ⟨n, hn⟩ : ∃ n : Int, n = c.toNat := ⟨_, rfl⟩
      rw [← hn] at hcc hcn
      have hn0 : ¬ n < 48 := by omega
      have hn1 : ¬ 57 < n := by omega
      have hn2 : 0 ≤ n - 48 ∧ n - 48 ≤ 9 := by omega
      obtain ⟨v', hv'⟩ : ∃ v', v' = X / 10 ^ (8 - (k + 1)) := ⟨_, rfl⟩
      have hvv : (10 * (v : Int) + (n - 48)) = (v' : Int) := by rw [hv', hst, hcn, HV.out]; omega
      have hvX : v' ≤ X := by rw [hv']; exact Nat.div_le_self _ _
      have HVV := Lib.hid hv'; have hki : (k : Int) < 8 := by omega
      clear hc hcn hst hn hv'; go_wp2_with fail
      go_roundw
      case rel => exact ⟨k + 1, v', by omega, by go_num, by go_num, hvX, HVV, HWR⟩
      case measure => simp [intOf]; omega
    · have hk8 : k = 8 := by omega
      have hvX : v = X := by rw [HV.out, hk8]; show X / 10 ^ 0 = X; omega
      have hki : ¬ (k : Int) < 8 := by omega
      have hwr := HWR.out; subst hwr; subst hvX; clear HV hv HDG HCE; go_wp2_with fail
      refine (day255 _ _ _ wr HLW.out (by omega) (by omega)).mono ?_
      rintro e w1 ⟨rfl, rfl⟩; rw [HDV.out]
      go_wp2_with fail
      go_ret2
      exact ⟨rfl, HW.out⟩
end Go.Proofs.YtageielcdebjlaaGreatDoor
namespace Go.Proofs.YtageielcdebjlaaGreatDoor
open Go.RowKit

def evCells (e : Ev) (v v' : Value) : Array Value := #[.string e.uid, .int .i64 e.seq, .bool e.canc, .int .i64 e.days.first, .int .i64 e.days.last, .int .i64 e.days.every, .int .i64 e.days.wd, v, v', .int .i64 e.start, .int .i64 e.mins, .string e.summ, .string e.loc]
def evVal (e : Ev) (v v' : Value) : Value := .agg (evCells e v v')

/-- An event in a block of its own. -/
def EvBox (b : Nat) (e : Ev) (v v' : Value) (w : World) : Prop := w.heap[b]? = some (.cells (evCells e v v') 82 (0, 0))
theorem EvBox.lt {b : Nat} {e : Ev} {v v' : Value} {w : World} (h : EvBox b e v v' w) : b < w.heap.size := (Array.getElem?_eq_some_iff.1 h).1
theorem EvBox.block {b : Nat} {e : Ev} {v v' : Value} {w w' : World} (h : EvBox b e v v' w) (hw : w'.heap[b]? = w.heap[b]?) : EvBox b e v v' w' := hw.trans h
/-- The cells of an event from place p of block b on. -/
structure EvC (b p : Nat) (e : Ev) (v v' : Value) (w : World) : Prop where
  c0 : w.cell? ⟨b, p, none⟩ = some (.string e.uid)
  c1 : w.cell? ⟨b, p + 1, none⟩ = some (.int .i64 e.seq)
  c2 : w.cell? ⟨b, p + 2, none⟩ = some (.bool e.canc)
  c3 : w.cell? ⟨b, p + 3, none⟩ = some (.int .i64 e.days.first)
  c4 : w.cell? ⟨b, p + 4, none⟩ = some (.int .i64 e.days.last)
  c5 : w.cell? ⟨b, p + 5, none⟩ = some (.int .i64 e.days.every)
  c6 : w.cell? ⟨b, p + 6, none⟩ = some (.int .i64 e.days.wd)
  c7 : w.cell? ⟨b, p + 7, none⟩ = some v
  c8 : w.cell? ⟨b, p + 8, none⟩ = some v'
  c9 : w.cell? ⟨b, p + 9, none⟩ = some (.int .i64 e.start)
  c10 : w.cell? ⟨b, p + 10, none⟩ = some (.int .i64 e.mins)
  c11 : w.cell? ⟨b, p + 11, none⟩ = some (.string e.summ)
  c12 : w.cell? ⟨b, p + 12, none⟩ = some (.string e.loc)
theorem EvBox.c {b : Nat} {e : Ev} {v v' : Value} {w : World} (h : EvBox b e v v' w) : EvC b 0 e v v' w := by
  constructor <;> (rw [Lib.cell_of_heap h]; rfl)

theorem ownsRow_len {w : World} {B : Nat} {e : TypeId} {k : Nat} {v : Value} {n : Nat} {xs : List Value} (h : w.ownsRow B e k v n xs) : ∃ p c, v = .slice p n c := by
  rcases h.2 with ⟨rfl, h0⟩ | ⟨g, cap, cur, rfl, _⟩
  · subst h0; exact ⟨_, _, rfl⟩
  · exact ⟨_, _, rfl⟩

theorem checkV_range (e : Ev) (v : Int) (h : e.seq < 1 ∨ v < e.seq) : checkV e v = 3 := by unfold checkV; rw [if_pos h]
theorem checkV_ser (e : Ev) (v : Int) (h : ¬ (e.seq < 1 ∨ v < e.seq)) (h2 : Tt.serV e.days ≠ 0) : checkV e v = Tt.serV e.days := by unfold checkV; rw [if_neg h, if_pos h2]
theorem checkV_empty (e : Ev) (v : Int) (h : ¬ (e.seq < 1 ∨ v < e.seq)) (h2 : Tt.serV e.days = 0) (h3 : Tt.serDays e.days = []) : checkV e v = 16 := by unfold checkV; rw [if_neg h, if_neg (by simp [h2]), if_pos h3]
theorem checkV_time (e : Ev) (v : Int) (h : ¬ (e.seq < 1 ∨ v < e.seq)) (h2 : Tt.serV e.days = 0) (h3 : Tt.serDays e.days ≠ []) :
    checkV e v = if e.start < 0 ∨ 1440 ≤ e.start ∨ e.mins < 1 ∨ 1440 < e.mins then 14
      else if e.summ.size = 0 ∨ Tt.labB e.summ.data.toList = false ∨ Tt.labB e.loc.data.toList = false then 4 else 0 := by unfold checkV; rw [if_neg h, if_neg (by simp [h2]), if_neg h3]

theorem nonempty_list (x : ByteArray) (h : x.size ≠ 0) : x.toList.isEmpty = false := by
  rw [Lib.toList_data]
  cases hx : x.data.toList with
  | nil => exact absurd (by rw [Lib.size_eq, hx]; rfl) h
  | cons c t => rfl
theorem empty_list (x : ByteArray) (h : x.size = 0) : x.toList = [] := by
  rw [Lib.toList_data]
  exact List.eq_nil_of_length_eq_zero (by rw [← Lib.size_eq]; exact h)

set_option maxHeartbeats 8000000 in
set_option maxRecDepth 100000 in
theorem check96 (e : Ev) (v : Int) (B : Nat) (w : World) (ao ao' : Option Addr) (c c' : Nat) (hB : B ≤ w.heap.size) (hI : Ints B w ao e.days.ex) (hI' : Ints B w ao' e.days.xt) (hn : e.days.ex.length ≤ 4611686018427387903) (hn2 : e.days.xt.length ≤ 4611686018427387903) (hs : e.summ.size ≤ 4611686018427387904) (hl : e.loc.size ≤ 4611686018427387904) :
    Calls Tryz.prog 96 #[evVal e (.slice ao e.days.ex.length c) (.slice ao' e.days.xt.length c'), .int .i64 v] w fun x w' => x = .returned (.int .i64 (checkV e v)) ∧ Below w.heap.size w w' := by
  have HI := Lib.hid hI; have HI' := Lib.hid hI'; have S0 : EvBox w.heap.size e (.slice ao e.days.ex.length c) (.slice ao' e.days.xt.length c') (w.alloc (.cells (evCells e (.slice ao e.days.ex.length c) (.slice ao' e.days.xt.length c')) 82)) := heap_alloc_new w _
  have HS0 := Lib.hid S0; clear hI hI' S0; unfold evCells at HS0
  unfold evVal evCells
  by_cases h1 : e.seq < 1 ∨ v < e.seq
  · have HE := Lib.hid (checkV_range e v h1)
    rcases h1 with h1 | h1
    · go_enter Tryz.func96, Tryz.ntmps96
      go_wp2_with fail
      go_ret; exact ⟨ret_int HE.out.symm, below_box _ _⟩
    · by_cases h2 : e.seq < 1
      all_goals
        go_enter Tryz.func96, Tryz.ntmps96
        go_wp2_with fail
        go_ret; exact ⟨ret_int HE.out.symm, below_box _ _⟩
  · have k1 : 1 ≤ e.seq := by omega
    have k2 : e.seq ≤ v := by omega
    have H1 := Lib.hid h1; clear h1; go_enter Tryz.func96, Tryz.ntmps96
    go_wp2_with fail
    refine (valid145_any e.days B _ hn hn2 ao ao' c c' (by simp; omega) (HI.out.below ((below_box w _).mono hB)) (HI'.out.below ((below_box w _).mono hB))).mono ?_
    rintro x w1 ⟨rfl, hb1⟩; have hbe1 := below_then (below_box w _) hb1
    have HA1 := Lib.hid (EvBox.block (e := e) HS0.out (hb1.block _ (by simp)))
    clear hb1; by_cases hv : Tt.serV e.days = 0
    · rw [hv]
      have HC1 := HA1.out.c; obtain ⟨c0, c1, c2, c3, c4, c5, c6, c7, c8, c9, c10, c11, c12⟩ := HC1; have HV := Lib.hid hv; clear hv; go_wp2_with fail
      refine (days74 e.days B _ hn hn2 ao ao' c c' (Nat.le_trans hB hbe1.size) (HI.out.below (hbe1.mono hB)) (HI'.out.below (hbe1.mono hB))).mono ?_
      rintro x w2 ⟨u, rfl, hown, hb2⟩; obtain ⟨q1, q2, hu⟩ := ownsRow_len hown
      subst hu; have hbe2 := below_then hbe1 hb2; have HA2 := Lib.hid (HA1.out.block (hb2.block _ HA1.out.lt))
      clear hb2 hown c0 c1 c2 c3 c4 c5 c6 c7 c8 c9 c10 c11 c12 HA1 hbe1; obtain ⟨c0, c1, c2, c3, c4, c5, c6, c7, c8, c9, c10, c11, c12⟩ := HA2.out.c
      by_cases hd : Tt.serDays e.days = []
      · have HE := Lib.hid (checkV_empty e v H1.out HV.out hd)
        have hlen : (Tt.serDays e.days).length = 0 := by rw [hd]; rfl
        rw [hlen]
        clear hd hlen; go_wp2_with fail
        go_ret; exact ⟨ret_int HE.out.symm, hbe2⟩
      · have HE := Lib.hid (checkV_time e v H1.out HV.out hd)
        obtain ⟨n, hlen⟩ : ∃ n, (Tt.serDays e.days).length = n + 1 := ⟨(Tt.serDays e.days).length - 1, by have := List.length_pos_iff.2 hd; omega⟩
        rw [hlen]
        clear hd hlen; by_cases ht : e.start < 0 ∨ 1440 ≤ e.start ∨ e.mins < 1 ∨ 1440 < e.mins
        · have HE2 := Lib.hid (HE.out.trans (if_pos ht))
          clear HE; go_wp2_with fail
          all_goals first
            | (go_ret; exact ⟨ret_int HE2.out.symm, hbe2⟩)
            | (exfalso; omega)
        · have HE2 := Lib.hid (HE.out.trans (if_neg ht))
          have t1 : ¬ e.start < 0 := by omega
          have t2 : ¬ 1440 ≤ e.start := by omega
          have t3 : ¬ e.mins < 1 := by omega
          have t4 : ¬ 1440 < e.mins := by omega
          clear HE ht; by_cases hz : e.summ.size = 0
          · have HE3 := Lib.hid (HE2.out.trans (if_pos (.inl hz)))
            have hz1 := empty_list _ hz; have hz2 : (!e.summ.toList.isEmpty) = false := by rw [hz1]; rfl
            clear hz; go_wp2_with fail
            go_ret; exact ⟨ret_int HE3.out.symm, hbe2⟩
          · have hz1 := nonempty_list _ hz; have HZ := Lib.hid hz
            clear hz; go_wp2_with fail
            refine (label167 e.summ _ hs).mono ?_
            rintro x w3 ⟨rfl, hw3⟩; have hbe3 := below_then hbe2 hw3; have HA3 := Lib.hid (HA2.out.block (hw3.block _ HA2.out.lt))
            clear c0 c1 c2 c3 c4 c5 c6 c7 c8 c9 c10 c11 c12 HA2 hbe2 hw3; obtain ⟨c0, c1, c2, c3, c4, c5, c6, c7, c8, c9, c10, c11, c12⟩ := HA3.out.c
            cases hl1 : Tt.labB e.summ.data.toList
            · have HE3 := Lib.hid (HE2.out.trans (if_pos (.inr (.inl hl1))))
              clear hl1; go_wp2_with fail
              go_ret; exact ⟨ret_int HE3.out.symm, hbe3⟩
            · have HL1 := Lib.hid hl1; clear hl1
              go_wp2_with fail
              refine (label167 e.loc _ hl).mono ?_
              rintro x w4 ⟨rfl, hw4⟩; have hbe4 := below_then hbe3 hw4; cases hl2 : Tt.labB e.loc.data.toList
              · have HE3 := Lib.hid (HE2.out.trans (if_pos (.inr (.inr hl2))))
                clear hl2; go_wp2_with fail
                go_ret; exact ⟨ret_int HE3.out.symm, hbe4⟩
              · have HE3 := Lib.hid (HE2.out.trans (if_neg (by rw [hl2, HL1.out]; simp [HZ.out])))
                clear hl2; go_wp2_with fail
                go_ret; exact ⟨ret_int HE3.out.symm, hbe4⟩
    · have HE := Lib.hid (checkV_ser e v H1.out hv)
      have hv2 : (Tt.serV e.days != 0) = true := by simp [hv]
      clear hv; go_wp2_with fail
      go_ret; exact ⟨ret_int HE.out.symm, hbe1⟩

set_option maxHeartbeats 8000000 in
set_option maxRecDepth 100000 in
theorem fault99 (e : Ev) (v : Int) (B : Nat) (w : World) (ao ao' : Option Addr) (c c' : Nat) (hB : B ≤ w.heap.size) (hI : Ints B w ao e.days.ex) (hI' : Ints B w ao' e.days.xt) (hn : e.days.ex.length ≤ 4611686018427387903) (hn2 : e.days.xt.length ≤ 4611686018427387903) (hs : e.summ.size ≤ 4611686018427387904) (hl : e.loc.size ≤ 4611686018427387904) :
    Calls Tryz.prog 99 #[evVal e (.slice ao e.days.ex.length c) (.slice ao' e.days.xt.length c'), .int .i64 v] w fun x w' => x = .returned (.int .i64 (checkV e v)) ∧ Below w.heap.size w w' := by
  have HI := Lib.hid hI; have HI' := Lib.hid hI'; have S0 : EvBox w.heap.size e (.slice ao e.days.ex.length c) (.slice ao' e.days.xt.length c') (w.alloc (.cells (evCells e (.slice ao e.days.ex.length c) (.slice ao' e.days.xt.length c')) 82)) := heap_alloc_new w _
  have HS0 := Lib.hid S0; clear hI hI' S0; unfold evCells at HS0
  unfold evVal evCells
  by_cases h1 : e.seq < 1 ∨ v < e.seq
  · have HE := Lib.hid (checkV_range e v h1)
    rcases h1 with h1 | h1
    · go_enter Tryz.func99, Tryz.ntmps99
      go_wp2_with fail
      go_ret; exact ⟨ret_int HE.out.symm, below_box _ _⟩
    · by_cases h2 : e.seq < 1
      all_goals
        go_enter Tryz.func99, Tryz.ntmps99
        go_wp2_with fail
        go_ret; exact ⟨ret_int HE.out.symm, below_box _ _⟩
  · have k1 : 1 ≤ e.seq := by omega
    have k2 : e.seq ≤ v := by omega
    have H1 := Lib.hid h1; clear h1; go_enter Tryz.func99, Tryz.ntmps99
    go_wp2_with fail
    refine (valid170_any e.days B _ hn hn2 ao ao' c c' (by simp; omega) (HI.out.below ((below_box w _).mono hB)) (HI'.out.below ((below_box w _).mono hB))).mono ?_
    rintro x w1 ⟨rfl, hb1⟩; have hbe1 := below_then (below_box w _) hb1
    have HA1 := Lib.hid (EvBox.block (e := e) HS0.out (hb1.block _ (by simp)))
    clear hb1; by_cases hv : Tt.serV e.days = 0
    · rw [hv]
      have HC1 := HA1.out.c; obtain ⟨c0, c1, c2, c3, c4, c5, c6, c7, c8, c9, c10, c11, c12⟩ := HC1; have HV := Lib.hid hv; clear hv; go_wp2_with fail
      refine (days119 e.days B _ hn hn2 ao ao' c c' (Nat.le_trans hB hbe1.size) (HI.out.below (hbe1.mono hB)) (HI'.out.below (hbe1.mono hB))).mono ?_
      rintro x w2 ⟨u, rfl, hown, hb2⟩; obtain ⟨q1, q2, hu⟩ := ownsRow_len hown
      subst hu; have hbe2 := below_then hbe1 hb2; have HA2 := Lib.hid (HA1.out.block (hb2.block _ HA1.out.lt))
      clear hb2 hown c0 c1 c2 c3 c4 c5 c6 c7 c8 c9 c10 c11 c12 HA1 hbe1; obtain ⟨c0, c1, c2, c3, c4, c5, c6, c7, c8, c9, c10, c11, c12⟩ := HA2.out.c
      by_cases hd : Tt.serDays e.days = []
      · have HE := Lib.hid (checkV_empty e v H1.out HV.out hd)
        have hlen : (Tt.serDays e.days).length = 0 := by rw [hd]; rfl
        rw [hlen]
        clear hd hlen; go_wp2_with fail
        go_ret; exact ⟨ret_int HE.out.symm, hbe2⟩
      · have HE := Lib.hid (checkV_time e v H1.out HV.out hd)
        obtain ⟨n, hlen⟩ : ∃ n, (Tt.serDays e.days).length = n + 1 := ⟨(Tt.serDays e.days).length - 1, by have := List.length_pos_iff.2 hd; omega⟩
        rw [hlen]
        clear hd hlen; by_cases ht : e.start < 0 ∨ 1440 ≤ e.start ∨ e.mins < 1 ∨ 1440 < e.mins
        · have HE2 := Lib.hid (HE.out.trans (if_pos ht))
          clear HE; go_wp2_with fail
          all_goals first
            | (go_ret; exact ⟨ret_int HE2.out.symm, hbe2⟩)
            | (exfalso; omega)
        · have HE2 := Lib.hid (HE.out.trans (if_neg ht))
          have t1 : ¬ e.start < 0 := by omega
          have t2 : ¬ 1440 ≤ e.start := by omega
          have t3 : ¬ e.mins < 1 := by omega
          have t4 : ¬ 1440 < e.mins := by omega
          clear HE ht; by_cases hz : e.summ.size = 0
          · have HE3 := Lib.hid (HE2.out.trans (if_pos (.inl hz)))
            have hz1 := empty_list _ hz; have hz2 : (!e.summ.toList.isEmpty) = false := by rw [hz1]; rfl
            clear hz; go_wp2_with fail
            go_ret; exact ⟨ret_int HE3.out.symm, hbe2⟩
          · have hz1 := nonempty_list _ hz; have HZ := Lib.hid hz
            clear hz; go_wp2_with fail
            refine (label171 e.summ _ hs).mono ?_
            rintro x w3 ⟨rfl, hw3⟩; rw [hw3]
            clear hw3 w3; cases hl1 : Tt.labB e.summ.data.toList
            · have HE3 := Lib.hid (HE2.out.trans (if_pos (.inr (.inl hl1))))
              clear hl1; go_wp2_with fail
              go_ret; exact ⟨ret_int HE3.out.symm, hbe2⟩
            · have HL1 := Lib.hid hl1; clear hl1
              go_wp2_with fail
              refine (label171 e.loc _ hl).mono ?_
              rintro x w4 ⟨rfl, hw4⟩; rw [hw4]
              clear hw4 w4; cases hl2 : Tt.labB e.loc.data.toList
              · have HE3 := Lib.hid (HE2.out.trans (if_pos (.inr (.inr hl2))))
                clear hl2; go_wp2_with fail
                go_ret; exact ⟨ret_int HE3.out.symm, hbe2⟩
              · have HE3 := Lib.hid (HE2.out.trans (if_neg (by rw [hl2, HL1.out]; simp [HZ.out])))
                clear hl2; go_wp2_with fail
                go_ret; exact ⟨ret_int HE3.out.symm, hbe2⟩
    · have HE := Lib.hid (checkV_ser e v H1.out hv)
      have hv2 : (Tt.serV e.days != 0) = true := by simp [hv]
      clear hv; go_wp2_with fail
      go_ret; exact ⟨ret_int HE.out.symm, hbe1⟩

end Go.Proofs.YtageielcdebjlaaGreatDoor
