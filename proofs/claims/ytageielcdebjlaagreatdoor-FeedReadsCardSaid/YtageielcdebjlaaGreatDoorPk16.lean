/- The parser on any line: days of any numbers, numbers of any text, what is taken from any line. Names of weekdays written and read again. The program's recurrence.Parse (function 180) on the rule of a series. Dates and rules of any text: the program's recurrence.date and recurrence.Parse: some series without lists, and a code. A drawn region without a tail: every operation may come at any time that what it waits for allows. No function of the program in sight. -/
import Derived.Test.YtageielcdebjlaaGreatDoorPk15
import Derived.Test.YtageielcdebjlaaGreatDoorPk5
import Derived.Test.YtageielcdebjlaaGreatDoorPk13
set_option maxRecDepth 100000
set_option maxHeartbeats 40000000
namespace Go.Proofs.YtageielcdebjlaaGreatDoor
open Go.RowKit
theorem day255L (y m d : Int) (w : World) (hL : Lens w) :
  Calls Tryz.prog 255 #[.int .i64 y, .int .i64 m, .int .i64 d] w fun e w' => (∃ n c : Int, e = .returned (.tuple #[.int .i64 n, .int .i64 c])) /\ w' = w := by
 by_cases hd : -1000000 <= d /\ d <= 1000000
 ·exact (day255 y m d w hL hd.1 hd.2).mono fun e w' h => ⟨⟨_, _, h.1⟩, h.2⟩
 ·have HL := Lh hL; clear hL; go_enter Tryz.func255, Tryz.ntmps255; by_cases h1 : y < 2000
  ·go_wp2_with fail; go_ret2; exact ⟨⟨_, _, rfl⟩, rfl⟩
  ·by_cases h2 : 2099 < y
   ·go_wp2_with fail; go_ret2; exact ⟨⟨_, _, rfl⟩, rfl⟩
   ·by_cases h3 : m < 1
    ·go_wp2_with fail; go_ret2; exact ⟨⟨_, _, rfl⟩, rfl⟩
    ·by_cases h4 : 12 < m
     ·go_wp2_with fail; go_ret2; exact ⟨⟨_, _, rfl⟩, rfl⟩
     ·by_cases h5 : d < 1
      ·go_wp2_with fail; go_ret2; exact ⟨⟨_, _, rfl⟩, rfl⟩
      ·have hml := Tt.mlen_bd y m; have h6 : Tt.mlen y m < d := by omega
       go_wp2_with fail; refine (length316 y m w (by omega) (by omega) (by omega) (by omega) HL.out).mono ?_; rintro e w1 ⟨rfl, hw⟩; rw [hw]; clear hw w1; go_wp2_with fail; go_ret2; exact ⟨⟨_, _, rfl⟩, rfl⟩
def Errs (w : World) : Prop := (∃ ev, w.cell? ⟨1, 0, none⟩ = some ev /\ (ev = .nilIface ∨ ∃ te pe, ev = .iface te pe)) /\ ∃ ev, w.cell? ⟨2, 0, none⟩ = some ev /\ (ev = .nilIface ∨ ∃ te pe, ev = .iface te pe)
theorem Errs.below {B : Nat} {w w' : World} (h : Errs w) (hB : 2 < B) (hb : Below B w w') : Errs w' := by
 obtain ⟨⟨a, h1, h2⟩, b, h3, h4⟩ := h; exact ⟨⟨a, (hb.cell (p := ⟨1, 0, none⟩) (show 1 < B by omega)).trans h1, h2⟩, b, (hb.cell (p := ⟨2, 0, none⟩) hB).trans h3, h4⟩
theorem atoi176L (s : ByteArray) (w : World) (hs : s.size <= 281474976710656) (hE : Errs w) :
  Calls Tryz.prog 176 #[.string s] w fun e w' => ∃ (n : Int) (v : Value), e = .returned (.tuple #[.int .i64 n, v]) /\ (v = .nilIface ∨ ∃ t p, v = .iface t p) /\ Below w.heap.size w w' := by
 obtain ⟨⟨a, h1, h2⟩, b, h3, h4⟩ := hE; by_cases hr : Lib.atoiAll s.data.toList = .range
 ·refine (Tryz.strconv_Atoi_range s hs hr b w h3 h4).mono ?_; rintro e w' ⟨N, rfl, _, _, hb⟩; exact ⟨_, _, rfl, .inr ⟨_, _, rfl⟩, hb⟩
 ·by_cases ho : ∃ v, Lib.atoiAll s.data.toList = .ok v
  ·obtain ⟨v, h⟩ := ho; refine (Tryz.strconv_Atoi_ok s (by omega) v h w).mono ?_; rintro e w' ⟨rfl, hw⟩; refine ⟨v, _, rfl, .inl rfl, ?_⟩; rcases hw with rfl | ⟨t, rfl⟩
   ·exact Below.refl _ _
   ·exact Lib.bytesWorld_below _ _ _
  ·refine (Tryz.strconv_Atoi_bad s hs (fun v h => ho ⟨v, h⟩) hr a w h1 h2).mono ?_; rintro e w' ⟨N, rfl, _, _, hb⟩; exact ⟨_, _, rfl, .inr ⟨_, _, rfl⟩, hb⟩
def NumL (b g o cap : Nat) (xs : List ByteArray) (z : ByteArray) (bad : Bool) (w : World) (e : Ending) (w' : World) : Prop := ∃ (n : Int) (c : Bool), e = .returned (.int .i64 n) /\ (bad = true -> c = true) /\ Par b g o cap xs z c w' /\ But b w.heap.size w w'
theorem number106L (b g o cap : Nat) (xs : List ByteArray) (z s : ByteArray) (bad : Bool) (w : World) (hpar : Par b g o cap xs z bad w) (hg : g < w.heap.size) (hs : s.size <= 281474976710656) (hE : Errs w) :
  Calls Tryz.prog 106 #[.pointer (some ⟨b, 0, none⟩), .string s] w (NumL b g o cap xs z bad w) := by
 have HP := Lh hpar; have HE := Lh hE; have hbl := hpar.lt; clear hpar hE; go_enter Tryz.func106, Tryz.ntmps106; go_wp2_with fail; refine (atoi176L s w hs HE.out).mono ?_; rintro e w1 ⟨n, v, rfl, hv, hb⟩; have HP1 := Lh (HP.out.below hb hg); have HB1 := Lh (But.of_below (b := b) hb); have c2 := HP1.out.c2; have f2 := HP1.out.f0 2; clear hb HP; cases bad
 ·rcases hv with rfl | ⟨t, p, rfl⟩
  ·go_wp2_with fail; go_ret; refine ⟨n, false, ?_, fun h => (by cases h), HP1.out.set2 false, HB1.out.trans (only_set w1 b 2 _).but⟩; rfl
  ·go_wp2_with fail; go_ret; refine ⟨n, true, ?_, fun _ => rfl, HP1.out.set2 true, HB1.out.trans (only_set w1 b 2 _).but⟩; rfl
 ·go_wp2_with fail; go_ret; refine ⟨n, true, ?_, fun _ => rfl, HP1.out.set2 true, HB1.out.trans (only_set w1 b 2 _).but⟩; rfl
structure Left (M : Nat) (xs ys : List ByteArray) : Prop where
 le : ys.length <= xs.length
 sz : (∀ x ∈ xs, x.size <= M) -> ∀ y ∈ ys, y.size <= M
theorem Left.refl (M : Nat) (xs : List ByteArray) : Left M xs xs := ⟨Nat.le_refl _, fun h => h⟩
theorem Left.trans {M : Nat} {xs ys zs : List ByteArray} (h : Left M xs ys) (k : Left M ys zs) : Left M xs zs := ⟨Nat.le_trans k.le h.le, fun hx => k.sz (h.sz hx)⟩
theorem Left.tail (M : Nat) (x : ByteArray) (xs : List ByteArray) : Left M (x :: xs) xs := ⟨Nat.le_succ _, fun h y hy => h y (List.mem_cons_of_mem _ hy)⟩
theorem trim_size (x k : ByteArray) : (⟨(Lib.trimPrefix x.data.toList k.data.toList).toArray⟩ : ByteArray).size <= x.size := by
 rw [size_mk, Lib.size_eq]; unfold Lib.trimPrefix; split
 ·rw [List.length_drop]; omega
 ·exact Nat.le_refl _
def TakeL (b g M : Nat) (xs : List ByteArray) (z : ByteArray) (bad : Bool) (w : World) (e : Ending) (w' : World) : Prop := ∃ (r : ByteArray) (ys : List ByteArray) (c : Bool), e = .returned (.string r) /\ r.size <= M /\ Left M xs ys /\ (bad = true -> c = true) /\ (∃ o' cap', Par b g o' cap' ys z c w') /\ Only b w w'
theorem take105L (b g o cap M : Nat) (xs : List ByteArray) (z k : ByteArray) (bad : Bool) (w : World) (hpar : Par b g o cap xs z bad w) (hM : ∀ x ∈ xs, x.size <= M) :
  Calls Tryz.prog 105 #[.pointer (some ⟨b, 0, none⟩), .string k] w (TakeL b g M xs z bad w) := by
 cases xs with
 | nil =>
  have HP := Lh hpar; have hs := see_end b g o cap z k bad w hpar; have HS := Lh hs; have c2 := hpar.c2; have f2 := hpar.f0 2; clear hs hpar; go_enter Tryz.func105, Tryz.ntmps105; go_wp2_with fail; refine HS.out.mono ?_; rintro e w1 ⟨rfl, hw⟩; rw [hw]; clear hw w1; go_wp2_with fail; go_ret; refine ⟨⟨#[]⟩, [], true, ?_, Nat.zero_le _, Left.refl _ _, fun _ => rfl, ⟨_, _, HP.out.set2 true⟩, only_set w b 2 _⟩; rfl
 | cons x xs =>
  by_cases hp : Lib.hasPrefix x.data.toList k.data.toList = true
  ·refine (take_any b g o cap x xs z k bad w hpar hp).mono ?_; rintro e w' ⟨rfl, hq, ho⟩; exact ⟨_, xs, bad, rfl, Nat.le_trans (trim_size x k) (hM x (List.mem_cons_self ..)), Left.tail _ _ _, fun h => h, hq, ho⟩
  ·have hp : Lib.hasPrefix x.data.toList k.data.toList = false := by simpa using hp
   have HP := Lh hpar; have hs := see_any b g o cap x xs z k bad w hpar; rw [hp] at hs; have HS := Lh hs; have c2 := hpar.c2; have f2 := hpar.f0 2; clear hs hpar hp; go_enter Tryz.func105, Tryz.ntmps105; go_wp2_with fail; refine HS.out.mono ?_; rintro e w1 ⟨rfl, hw⟩; rw [hw]; clear hw w1; go_wp2_with fail; go_ret; refine ⟨⟨#[]⟩, x :: xs, true, ?_, Nat.zero_le _, Left.refl _ _, fun _ => rfl, ⟨_, _, HP.out.set2 true⟩, only_set w b 2 _⟩; rfl
end Go.Proofs.YtageielcdebjlaaGreatDoor
namespace Tt
theorem wk_back' (r : List UInt8) (a b c : Nat) (ha : a < 8) (hb : b < 4) (hc : c < 4) : wkGo 7 0 (byL ((16 * a + 4 * b + c : Nat) : Int) 7 ++ 59 :: r) = (((16 * a + 4 * b + c : Nat) : Int), 59 :: r) := by
 match a, ha with
 | 0, _ | 1, _ | 2, _ | 3, _ | 4, _ | 5, _ | 6, _ | 7, _ =>
  match b, hb with
  | 0, _ | 1, _ | 2, _ | 3, _ =>
   match c, hc with
   | 0, _ | 1, _ | 2, _ | 3, _ => show _ = _; kernel_rfl
theorem wk_back (r : List UInt8) {n : Int} (h0 : 0 <= n) (h1 : n < 128) : wkGo 7 0 (byL n 7 ++ 59 :: r) = (n, 59 :: r) := by
 have h := wk_back' r (n.toNat / 16) (n.toNat / 4 % 4) (n.toNat % 4) (by omega) (by omega) (by omega); rwa [show ((16 * (n.toNat / 16) + 4 * (n.toNat / 4 % 4) + n.toNat % 4 : Nat) : Int) = n from by omega] at h
end Tt
namespace Go.Proofs.YtageielcdebjlaaGreatDoor
open Go.RowKit
theorem cut_app (k l : List UInt8) (t K : ByteArray) (hK : K.data.toList = k) (ht : t.data.toList = k ++ l) (W : World) :
  Calls Tryz.prog 177 #[.string t, .string K] W fun e w' => e = .returned (.tuple #[.string ⟨l.toArray⟩, .bool true]) /\ w' = W := by
 have h := Tryz.strings_CutPrefix t K W; rw [hK, ht, prefix_app, trim_app] at h; exact h
theorem parse180 (s : Tt.Ser) (t : ByteArray) (w : World) (hh : Tt.Head s) (ht : t.data.toList = Tt.ruleL s) (hL : Lens w) (hw : 3 < w.heap.size) :
  Calls Tryz.prog 180 #[.int .i64 s.first, .string t] w fun e w' => e = .returned (.tuple #[.agg #[.int .i64 s.first, .int .i64 s.last, .int .i64 s.every, .int .i64 s.wd, .slice none 0 0, .slice none 0 0], .int .i64 0]) /\ Below w.heap.size w w' := by
 have e0 := hh.e0; have e1 := hh.e1; obtain ⟨c, hc⟩ : ∃ c : UInt8, c = UInt8.ofNat (48 + s.every.toNat) := ⟨_, rfl⟩
 have hcn : (c.toNat : Int) = 48 + s.every := by rw [hc, Tt.ofNat_toNat (by omega)]; omega
 have hdd : Lib.decDigits s.every.toNat = [c] := by rw [Lib.decDigits_one (by omega), hc]
 obtain ⟨R4, hR4⟩ : ∃ q : ByteArray, q = ⟨(Tt.dateL s.last).toArray⟩ := ⟨_, rfl⟩
 obtain ⟨R3, hR3⟩ : ∃ q : ByteArray, q = ⟨(59 :: ([85, 78, 84, 73, 76, 61] ++ Tt.dateL s.last)).toArray⟩ := ⟨_, rfl⟩
 obtain ⟨R2, hR2⟩ : ∃ q : ByteArray, q = ⟨(Tt.byL s.wd 7 ++ 59 :: ([85, 78, 84, 73, 76, 61] ++ Tt.dateL s.last)).toArray⟩ := ⟨_, rfl⟩
 obtain ⟨R1, hR1⟩ : ∃ q : ByteArray, q = ⟨(c :: ([59, 66, 89, 68, 65, 89, 61] ++ (Tt.byL s.wd 7 ++ 59 :: ([85, 78, 84, 73, 76, 61] ++ Tt.dateL s.last)))).toArray⟩ := ⟨_, rfl⟩
 have hsz : 1 <= R1.size := by rw [hR1, size_mk, List.length_cons]; omega
 have H0 : R1.data.toList = c :: ([59, 66, 89, 68, 65, 89, 61] ++ (Tt.byL s.wd 7 ++ 59 :: ([85, 78, 84, 73, 76, 61] ++ Tt.dateL s.last))) := by rw [hR1]
 have HC1 : Hid (∀ W, Calls Tryz.prog 177 #[.string t, .string ⟨#[70, 82, 69, 81, 61, 87, 69, 69, 75, 76, 89, 59, 73, 78, 84, 69, 82, 86, 65, 76, 61]⟩] W fun e w' => e = .returned (.tuple #[.string R1, .bool true]) /\ w' = W) := Lh (fun W => by
  rw [hR1]; exact cut_app [70, 82, 69, 81, 61, 87, 69, 69, 75, 76, 89, 59, 73, 78, 84, 69, 82, 86, 65, 76, 61] _ t _ rfl (by rw [ht, Tt.ruleL, hdd]; simp only [List.append_assoc, List.cons_append, List.nil_append]) W)
 have HC2 : Hid (∀ W, Calls Tryz.prog 177 #[.string (R1.extract 1 R1.size), .string ⟨#[59, 66, 89, 68, 65, 89, 61]⟩] W fun e w' => e = .returned (.tuple #[.string R2, .bool true]) /\ w' = W) := Lh (fun W => by
  rw [hR2]; exact cut_app [59, 66, 89, 68, 65, 89, 61] _ _ _ rfl (by rw [Lib.extract_to_end, H0]; rfl) W)
 have HC3 : Hid (∀ W, Calls Tryz.prog 177 #[.string R3, .string ⟨#[59, 85, 78, 84, 73, 76, 61]⟩] W fun e w' => e = .returned (.tuple #[.string R4, .bool true]) /\ w' = W) := Lh (fun W => by
  rw [hR4]; exact cut_app [59, 85, 78, 84, 73, 76, 61] _ _ _ rfl (by rw [hR3]; rfl) W)
 have HWK : Hid (∀ W, Calls Tryz.prog 257 #[.string R2] W fun e w' => e = .returned (.tuple #[.int .i64 s.wd, .string R3]) /\ w' = W) := Lh (fun W => by
  have h := weekdays257 R2 W; rw [show R2.data.toList = Tt.byL s.wd 7 ++ 59 :: ([85, 78, 84, 73, 76, 61] ++ Tt.dateL s.last) from by rw [hR2], Tt.wk_back _ hh.w0 (by have := hh.w1; omega), <- hR3] at h; exact h)
 have HDT : Hid (∀ W, Below w.heap.size w W -> Calls Tryz.prog 258 #[.string R4] W fun e w' => e = .returned (.tuple #[.int .i64 s.last, .bool true]) /\ Below W.heap.size W w') := Lh (fun W hW => date258 R4 s.last W (by rw [hR4]) hh.l0 hh.l1 (hL.below hw hW) (Nat.lt_of_lt_of_le hw hW.size)); have HVL : Hid (∀ W : World, Calls Tryz.prog 145 #[.agg #[.int .i64 s.first, .int .i64 s.last, .int .i64 s.every, .int .i64 s.wd, .slice none 0 0, .slice none 0 0]] W fun e w' => e = .returned (.int .i64 0) /\ Below W.heap.size W w') := Lh (fun W => by
  have h := valid145_any ⟨s.first, s.last, s.every, s.wd, [], []⟩ 0 W (by simp) (by simp) none none 0 0 (Nat.zero_le _) (fun j x hj => by simp at hj) (fun j x hj => by simp at hj); rw [(Tt.serV_zero ⟨s.first, s.last, s.every, s.wd, [], []⟩).2 ⟨⟨hh.f0, hh.f1, hh.l0, hh.l1, hh.fl, hh.lf, hh.e0, hh.e1, hh.w0, hh.w1, by simp⟩, rfl, rfl⟩] at h; exact h)
 have HI : Tt.isD s.first = true := by unfold Tt.isD; have := hh.f0; have := hh.f1; simp; omega
 have hch : R1[0]'hsz = c := by
  have h := Lib.data_getElem? R1 0 hsz; rw [H0] at h; simpa using h.symm
 have hne : R1.toList.isEmpty = false := by rw [Lib.toList_data, H0]; rfl
 have hc0 : ¬ (c.toNat : Int) < 48 := by omega
 have hc1 : ¬ 57 < (c.toNat : Int) := by omega
 have hsub : (c.toNat : Int) - 48 = s.every := by omega
 have HA : Hid (∀ W, Below w.heap.size w W -> 3 < W.heap.size) := Lh (fun W h => Nat.lt_of_lt_of_le hw h.size); clear hR1 hR2 hR3 hR4 H0 hc hdd ht hh hcn; go_enter Tryz.func180, Tryz.ntmps180; go_wp2_with fail; refine (isD206 s.first _).mono ?_; rintro e w1 ⟨rfl, rfl⟩; rw [HI]; go_wp2_with fail; refine (HC1.out _).mono ?_; rintro e w1 ⟨rfl, rfl⟩; go_wp2_with fail; refine (HC2.out _).mono ?_; rintro e w1 ⟨rfl, rfl⟩; go_wp2_with fail; refine (HWK.out _).mono ?_; rintro e w1 ⟨rfl, rfl⟩; go_wp2_with fail; refine (HC3.out _).mono ?_; rintro e w1 ⟨rfl, rfl⟩; go_wp2_with fail; obtain ⟨Z, hZ⟩ : ∃ Z, Z = ((w.alloc (.cells #[.int .i64 0, .int .i64 0, .int .i64 0, .int .i64 0, .slice none 0 0, .slice none 0 0] 80)).alloc (.cells #[.int .i64 s.first, .int .i64 0, .int .i64 s.every, .int .i64 s.wd, .slice none 0 0, .slice none 0 0] 80)) := ⟨_, rfl⟩
 rw [<- hZ]; have hA : Blk w.heap.size #[.int .i64 0, .int .i64 0, .int .i64 0, .int .i64 0, .slice none 0 0, .slice none 0 0] 80 Z := by rw [hZ]; exact (Blk.new w _ 80).alloc _
 have hB : Blk (w.heap.size + 1) #[.int .i64 s.first, .int .i64 0, .int .i64 s.every, .int .i64 s.wd, .slice none 0 0, .slice none 0 0] 80 Z := by rw [hZ]; exact Blk.new' _ _ 80 (by simp)
 have hW : Below w.heap.size w Z := by rw [hZ]; exact (below_box w _).trans ((below_box _ _).mono (by simp))
 clear hZ; refine (HDT.out Z hW).mono ?_; rintro e x ⟨rfl, hb⟩; have HA1 := Lh (hA.below hb hA.lt); have HB1 := Lh (hB.below hb hB.lt); have HW1 := Lh (hW.trans (hb.mono hW.size)); clear hA hB hW hb; have fz := HB1.out.frozen 1; have cz := HB1.out.cell 1; go_upto_region 16 with (fail); obtain ⟨X, hX⟩ : ∃ X, X = x.setCell ⟨w.heap.size + 1, 1, none⟩ (.int .i64 s.last) := ⟨_, rfl⟩
 rw [<- hX]; have hA : Blk w.heap.size #[.int .i64 0, .int .i64 0, .int .i64 0, .int .i64 0, .slice none 0 0, .slice none 0 0] 80 X := by rw [hX]; exact HA1.out.only (only_set x (w.heap.size + 1) 1 _) (by omega)
 have hB : Blk (w.heap.size + 1) #[.int .i64 s.first, .int .i64 s.last, .int .i64 s.every, .int .i64 s.wd, .slice none 0 0, .slice none 0 0] 80 X := by rw [hX]; exact HB1.out.set 1 _
 have hW : Below w.heap.size w X := by rw [hX]; exact HW1.out.trans ((only_set x (w.heap.size + 1) 1 _).but (b := w.heap.size + 1) (B := w.heap.size + 1) |>.below (by omega) (by omega))
 clear hX fz cz HA1 HB1 HW1; have b0 := hB.cell 0; have b1 := hB.cell 1; have b2 := hB.cell 2; have b3 := hB.cell 3; have b4 := hB.cell 4; have b5 := hB.cell 5; go_wp2_with fail; refine (HVL.out X).mono ?_; rintro e x2 ⟨rfl, hb⟩; have hA2 := hA.below hb hA.lt; have hB2 := hB.below hb hB.lt; have HW2 := Lh (hW.trans (hb.mono hW.size)); clear hA hB hW hb b0 b1 b2 b3 b4 b5; have b0 := hB2.cell 0; have b1 := hB2.cell 1; have b2 := hB2.cell 2; have b3 := hB2.cell 3; have b4 := hB2.cell 4; have b5 := hB2.cell 5; have a0 := hA2.frozen 0; have a1 := hA2.frozen 1; have a2 := hA2.frozen 2; have a3 := hA2.frozen 3; have a4 := hA2.frozen 4; have a5 := hA2.frozen 5; have z0 := hA2.cell 0; have z1 := hA2.cell 1; have z2 := hA2.cell 2; have z3 := hA2.cell 3; have z4 := hA2.cell 4; have z5 := hA2.cell 5; go_wp2_with fail; obtain ⟨Y, hY⟩ : ∃ Y, Y = ((((((x2.setCell ⟨w.heap.size, 0, none⟩ (.int .i64 s.first)).setCell ⟨w.heap.size, 1, none⟩ (.int .i64 s.last)).setCell ⟨w.heap.size, 2, none⟩ (.int .i64 s.every)).setCell ⟨w.heap.size, 3, none⟩ (.int .i64 s.wd)).setCell ⟨w.heap.size, 4, none⟩ (.slice none 0 0)).setCell ⟨w.heap.size, 5, none⟩ (.slice none 0 0)) := ⟨_, rfl⟩
 rw [<- hY]; have hYA : Blk w.heap.size #[.int .i64 s.first, .int .i64 s.last, .int .i64 s.every, .int .i64 s.wd, .slice none 0 0, .slice none 0 0] 80 Y := by rw [hY]; exact (((((hA2.set 0 _).set 1 _).set 2 _).set 3 _).set 4 _).set 5 _
 have hYW : Below w.heap.size w Y := by
  have q : ∀ (W : World) (i : Nat) (u : Value), Below w.heap.size w W -> Below w.heap.size w (W.setCell ⟨w.heap.size, i, none⟩ u) := fun W i u h => h.trans ((only_set W w.heap.size i u).but (b := w.heap.size) (B := w.heap.size) |>.below (by omega) (by omega))
  rw [hY]; exact q _ _ _ (q _ _ _ (q _ _ _ (q _ _ _ (q _ _ _ (q _ _ _ HW2.out)))))
 clear hY; have r0 := hYA.cell 0; have r1 := hYA.cell 1; have r2 := hYA.cell 2; have r3 := hYA.cell 3; have r4 := hYA.cell 4; have r5 := hYA.cell 5; simp only [qT, qZ, qS] at r0 r1 r2 r3 r4 r5; refine bodyPost_ret (v := .tuple #[.agg #[.int .i64 s.first, .int .i64 s.last, .int .i64 s.every, .int .i64 s.wd, .slice none 0 0, .slice none 0 0], .int .i64 0]) (by simp [results, Tryz.results180, go_sem, r0, r1, r2, r3, r4, r5]) rfl ?_; exact ⟨rfl, hYW⟩
def DateL (w : World) (e : Ending) (w' : World) : Prop := ∃ (n : Int) (ok : Bool), e = .returned (.tuple #[.int .i64 n, .bool ok]) /\ Below w.heap.size w w'
theorem date258L (s : ByteArray) (w : World) (hL : Lens w) (hw : 3 < w.heap.size) : Calls Tryz.prog 258 #[.string s] w (DateL w) := by
 by_cases hs : s.size = 8
 ·have zs : ((s.size : Int) != 8) = false := by rw [hs]; rfl
  obtain ⟨cap, W, hconv, hb0, hsz, hcell⟩ := bytes_of s w; have HW := Lh hb0; have HCE := Lh hcell; have HLW := Lh (hL.below hw hb0); have HDG : Hid (∀ k, k < 8 -> ∃ c : UInt8, s.data.toList[k]? = some c) := Lh (fun k hk => by
   have : k < s.data.toList.length := by rw [<- Lib.size_eq, hs]; exact hk
   exact ⟨_, List.getElem?_eq_getElem this⟩)
  clear hL hb0 hcell; go_enter Tryz.func258, Tryz.ntmps258; go_wp2_with fail; clear hconv; go_loopw [4, 6, 15] (fun nv _ iv wr => ∃ (k : Nat) (v : Int), k <= 8 /\ iv = .int .i64 k /\ nv = .int .i64 v /\ Hid (wr = W)) (fun _ _ iv _ => 8 - (intOf iv).toNat)
  case atStart => exact ⟨0, 0, Nat.zero_le _, rfl, rfl, Lh rfl⟩
  case round =>
   obtain ⟨k, v, hk, rfl, rfl, HWR⟩ := hrel; by_cases hlt : k < 8
   ·obtain ⟨c, hc⟩ := HDG.out k hlt; have hcc := HCE.out k c hc; rw [<- HWR.out] at hcc; obtain ⟨n, hn⟩ : ∃ n : Int, n = c.toNat := ⟨_, rfl⟩
    rw [<- hn] at hcc; have hki : (k : Int) < 8 := by omega
    have HBW := Lh (show Below w.heap.size w wr from by rw [HWR.out]; exact HW.out); clear hc hn; by_cases h0 : n < 48
    ·go_wp2_with fail; go_ret2; exact ⟨_, _, rfl, HBW.out⟩
    ·by_cases h1 : 57 < n
     ·go_wp2_with fail; go_ret2; exact ⟨_, _, rfl, HBW.out⟩
     ·go_wp2_with fail; go_roundw
      case rel => exact ⟨k + 1, _, by omega, by go_num, rfl, HWR⟩
      case measure => simp [intOf]; omega
   ·have hk8 : k = 8 := by omega
    have hki : ¬ (k : Int) < 8 := by omega
    have hwr := HWR.out; subst hwr; clear HDG HCE; go_wp2_with fail; refine (day255L _ _ _ wr HLW.out).mono ?_; rintro e w1 ⟨⟨n, c, rfl⟩, rfl⟩; go_wp2_with fail; go_ret2; exact ⟨_, _, rfl, HW.out⟩
 ·have zs : ((s.size : Int) != 8) = true := by simp; omega
  go_enter Tryz.func258, Tryz.ntmps258; go_wp2_with fail; go_ret2; exact ⟨_, _, rfl, Below.refl _ _⟩
def RuleL (w : World) (e : Ending) (w' : World) : Prop := ∃ a l v d c : Int, e = .returned (.tuple #[.agg #[.int .i64 a, .int .i64 l, .int .i64 v, .int .i64 d, .slice none 0 0, .slice none 0 0], .int .i64 c]) /\ Below w.heap.size w w'
theorem fill6R {g : Nat} {cs : Array Value} {w0 w : World} (h : Blk g cs 80 w) (hc : cs.size = 6) (hb : Below w0.heap.size w0 w) (hg : w0.heap.size <= g) (u0 u1 u2 u3 u4 u5 : Value) : ∃ Y, Y = ((((((w.setCell ⟨g, 0, none⟩ u0).setCell ⟨g, 1, none⟩ u1).setCell ⟨g, 2, none⟩ u2).setCell ⟨g, 3, none⟩ u3).setCell ⟨g, 4, none⟩ u4).setCell ⟨g, 5, none⟩ u5) /\ Blk g #[u0, u1, u2, u3, u4, u5] 80 Y /\ Below w0.heap.size w0 Y := by
 refine ⟨_, rfl, ?_, ?_⟩
 ·obtain ⟨l⟩ := cs; match l, hc with
  | [a0, a1, a2, a3, a4, a5], _ => exact (((((h.set 0 u0).set 1 u1).set 2 u2).set 3 u3).set 4 u4).set 5 u5
 ·have q : ∀ (W : World) (i : Nat) (u : Value), Below w0.heap.size w0 W -> Below w0.heap.size w0 (W.setCell ⟨g, i, none⟩ u) := fun W i u h => h.setCell hg _
  exact q _ _ _ (q _ _ _ (q _ _ _ (q _ _ _ (q _ _ _ (q _ _ _ hb)))))
theorem parse180L (f : Int) (t : ByteArray) (w : World) (hL : Lens w) (hw : 3 < w.heap.size) : Calls Tryz.prog 180 #[.int .i64 f, .string t] w (RuleL w) := by
 have HL : Hid (∀ W, Below w.heap.size w W -> Lens W /\ 3 < W.heap.size) := Lh (fun W h => ⟨hL.below hw h, Nat.lt_of_lt_of_le hw h.size⟩); obtain ⟨R, hR⟩ : ∃ R, R = w.heap.size := ⟨_, rfl⟩
 have HB0 := Lh (show Below w.heap.size w (w.alloc (.cells #[.int .i64 0, .int .i64 0, .int .i64 0, .int .i64 0, .slice none 0 0, .slice none 0 0] 80)) from below_box w _); have HA0 := Lh (show Blk R #[.int .i64 0, .int .i64 0, .int .i64 0, .int .i64 0, .slice none 0 0, .slice none 0 0] 80 (w.alloc (.cells #[.int .i64 0, .int .i64 0, .int .i64 0, .int .i64 0, .slice none 0 0, .slice none 0 0] 80)) from by rw [hR]; exact Blk.new w _ 80); have HRW := Lh (show w.heap.size <= R by omega); obtain ⟨W0, hW0⟩ : ∃ W0, W0 = w.alloc (.cells #[.int .i64 0, .int .i64 0, .int .i64 0, .int .i64 0, .slice none 0 0, .slice none 0 0] 80) := ⟨_, rfl⟩
 rw [<- hW0] at HA0 HB0; clear hL; go_enter Tryz.func180, Tryz.ntmps180; go_upto_region 1 with (fail); rw [<- hW0, <- hR]; clear hW0 hR hw; go_wp2_with fail; refine (isD206 f _).mono ?_; rintro e w1 ⟨rfl, hx⟩; rw [hx]; clear hx w1; obtain ⟨b1, hb1⟩ : ∃ b1, b1 = Tt.isD f := ⟨_, rfl⟩
 rw [<- hb1]; clear hb1; cases b1
 ·have a0 := HA0.out.frozen 0; have a1 := HA0.out.frozen 1; have a2 := HA0.out.frozen 2; have a3 := HA0.out.frozen 3; have a4 := HA0.out.frozen 4; have a5 := HA0.out.frozen 5; have z0 := HA0.out.cell 0; have z1 := HA0.out.cell 1; have z2 := HA0.out.cell 2; have z3 := HA0.out.cell 3; have z4 := HA0.out.cell 4; have z5 := HA0.out.cell 5; simp only [qT, qZ, qS] at z0 z1 z2 z3 z4 z5; go_wp2_with fail; obtain ⟨Y, hY, hB, hE⟩ := fill6R HA0.out rfl HB0.out HRW.out (.int .i64 0) (.int .i64 0) (.int .i64 0) (.int .i64 0) (.slice none 0 0) (.slice none 0 0); rw [<- hY]; clear hY a0 z0 a1 z1 a2 z2 a3 z3 a4 z4 a5 z5; have r0 := hB.cell 0; have r1 := hB.cell 1; have r2 := hB.cell 2; have r3 := hB.cell 3; have r4 := hB.cell 4; have r5 := hB.cell 5; simp only [qT, qZ, qS] at r0 r1 r2 r3 r4 r5; refine bodyPost_ret (v := .tuple #[.agg #[.int .i64 0, .int .i64 0, .int .i64 0, .int .i64 0, .slice none 0 0, .slice none 0 0], .int .i64 13]) (by simp [results, Tryz.results180, go_sem, r0, r1, r2, r3, r4, r5]) rfl ?_; exact ⟨(0), (0), (0), (0), 13, rfl, hE⟩
 ·go_upto_region 4 with (fail); obtain ⟨G, hG⟩ : ∃ G, G = W0.heap.size := ⟨_, rfl⟩
  obtain ⟨W1, hW1⟩ : ∃ W1, W1 = W0.alloc (.cells #[.int .i64 f, .int .i64 0, .int .i64 0, .int .i64 0, .slice none 0 0, .slice none 0 0] 80) := ⟨_, rfl⟩
  have HG1 := Lh (show Blk G #[.int .i64 f, .int .i64 0, .int .i64 0, .int .i64 0, .slice none 0 0, .slice none 0 0] 80 W1 from by rw [hW1, hG]; exact Blk.new W0 _ 80); have HA1 := Lh (show Blk R #[.int .i64 0, .int .i64 0, .int .i64 0, .int .i64 0, .slice none 0 0, .slice none 0 0] 80 W1 from by rw [hW1]; exact HA0.out.alloc _); have HB1 := Lh (show Below w.heap.size w W1 from by rw [hW1]; exact HB0.out.trans ((below_box W0 _).mono HB0.out.size)); have HGR := Lh (show R ≠ G from by have := HA0.out.lt; omega); have HGW := Lh (show w.heap.size <= G from by have := HB0.out.size; omega); rw [<- hW1, <- hG]; clear hW1 hG HA0 HB0; go_wp2_with fail; refine (Tryz.strings_CutPrefix _ _ _).mono ?_; rintro e w1 ⟨rfl, hx⟩; rw [hx]; clear hx w1; obtain ⟨R1, hR1⟩ : ∃ R1 : ByteArray, R1 = ⟨(Lib.trimPrefix t.data.toList (⟨#[70, 82, 69, 81, 61, 87, 69, 69, 75, 76, 89, 59, 73, 78, 84, 69, 82, 86, 65, 76, 61]⟩ : ByteArray).data.toList).toArray⟩ := ⟨_, rfl⟩
  obtain ⟨b2, hb2⟩ : ∃ b2, b2 = Lib.hasPrefix t.data.toList (⟨#[70, 82, 69, 81, 61, 87, 69, 69, 75, 76, 89, 59, 73, 78, 84, 69, 82, 86, 65, 76, 61]⟩ : ByteArray).data.toList := ⟨_, rfl⟩
  rw [<- hR1, <- hb2]; clear hR1 hb2; cases b2
  ·have a0 := HA1.out.frozen 0; have a1 := HA1.out.frozen 1; have a2 := HA1.out.frozen 2; have a3 := HA1.out.frozen 3; have a4 := HA1.out.frozen 4; have a5 := HA1.out.frozen 5; have z0 := HA1.out.cell 0; have z1 := HA1.out.cell 1; have z2 := HA1.out.cell 2; have z3 := HA1.out.cell 3; have z4 := HA1.out.cell 4; have z5 := HA1.out.cell 5; simp only [qT, qZ, qS] at z0 z1 z2 z3 z4 z5; go_wp2_with fail; obtain ⟨Y, hY, hB, hE⟩ := fill6R HA1.out rfl HB1.out HRW.out (.int .i64 0) (.int .i64 0) (.int .i64 0) (.int .i64 0) (.slice none 0 0) (.slice none 0 0); rw [<- hY]; clear hY a0 z0 a1 z1 a2 z2 a3 z3 a4 z4 a5 z5; have r0 := hB.cell 0; have r1 := hB.cell 1; have r2 := hB.cell 2; have r3 := hB.cell 3; have r4 := hB.cell 4; have r5 := hB.cell 5; simp only [qT, qZ, qS] at r0 r1 r2 r3 r4 r5; refine bodyPost_ret (v := .tuple #[.agg #[.int .i64 0, .int .i64 0, .int .i64 0, .int .i64 0, .slice none 0 0, .slice none 0 0], .int .i64 4]) (by simp [results, Tryz.results180, go_sem, r0, r1, r2, r3, r4, r5]) rfl ?_; exact ⟨(0), (0), (0), (0), 4, rfl, hE⟩
  ·by_cases hsz : R1.size = 0
   ·have he : R1.toList.isEmpty = true := by rw [empty_list R1 hsz]; rfl
    have a0 := HA1.out.frozen 0; have a1 := HA1.out.frozen 1; have a2 := HA1.out.frozen 2; have a3 := HA1.out.frozen 3; have a4 := HA1.out.frozen 4; have a5 := HA1.out.frozen 5; have z0 := HA1.out.cell 0; have z1 := HA1.out.cell 1; have z2 := HA1.out.cell 2; have z3 := HA1.out.cell 3; have z4 := HA1.out.cell 4; have z5 := HA1.out.cell 5; simp only [qT, qZ, qS] at z0 z1 z2 z3 z4 z5; go_wp2_with fail; obtain ⟨Y, hY, hB, hE⟩ := fill6R HA1.out rfl HB1.out HRW.out (.int .i64 0) (.int .i64 0) (.int .i64 0) (.int .i64 0) (.slice none 0 0) (.slice none 0 0); rw [<- hY]; clear hY a0 z0 a1 z1 a2 z2 a3 z3 a4 z4 a5 z5; have r0 := hB.cell 0; have r1 := hB.cell 1; have r2 := hB.cell 2; have r3 := hB.cell 3; have r4 := hB.cell 4; have r5 := hB.cell 5; simp only [qT, qZ, qS] at r0 r1 r2 r3 r4 r5; refine bodyPost_ret (v := .tuple #[.agg #[.int .i64 0, .int .i64 0, .int .i64 0, .int .i64 0, .slice none 0 0, .slice none 0 0], .int .i64 4]) (by simp [results, Tryz.results180, go_sem, r0, r1, r2, r3, r4, r5]) rfl ?_; exact ⟨(0), (0), (0), (0), 4, rfl, hE⟩
   ·have he := nonempty_list R1 hsz; have hpos : (0 : Int) < (R1.size : Int) := by omega
    have hp1 : 1 <= R1.size := by omega
    have hp0 : 0 < R1.size := by omega
    obtain ⟨n, hn⟩ : ∃ n : Int, n = ((R1[0]'hp0).toNat : Int) := ⟨_, rfl⟩
    by_cases h0 : n < 48
    ·have hq0 : (((R1[0]'hp0).toNat : Int) < 48) := by omega
     clear hn h0; have a0 := HA1.out.frozen 0; have a1 := HA1.out.frozen 1; have a2 := HA1.out.frozen 2; have a3 := HA1.out.frozen 3; have a4 := HA1.out.frozen 4; have a5 := HA1.out.frozen 5; have z0 := HA1.out.cell 0; have z1 := HA1.out.cell 1; have z2 := HA1.out.cell 2; have z3 := HA1.out.cell 3; have z4 := HA1.out.cell 4; have z5 := HA1.out.cell 5; simp only [qT, qZ, qS] at z0 z1 z2 z3 z4 z5; go_wp2_with fail; obtain ⟨Y, hY, hB, hE⟩ := fill6R HA1.out rfl HB1.out HRW.out (.int .i64 0) (.int .i64 0) (.int .i64 0) (.int .i64 0) (.slice none 0 0) (.slice none 0 0); rw [<- hY]; clear hY a0 z0 a1 z1 a2 z2 a3 z3 a4 z4 a5 z5; have r0 := hB.cell 0; have r1 := hB.cell 1; have r2 := hB.cell 2; have r3 := hB.cell 3; have r4 := hB.cell 4; have r5 := hB.cell 5; simp only [qT, qZ, qS] at r0 r1 r2 r3 r4 r5; refine bodyPost_ret (v := .tuple #[.agg #[.int .i64 0, .int .i64 0, .int .i64 0, .int .i64 0, .slice none 0 0, .slice none 0 0], .int .i64 4]) (by simp [results, Tryz.results180, go_sem, r0, r1, r2, r3, r4, r5]) rfl ?_; exact ⟨(0), (0), (0), (0), 4, rfl, hE⟩
    ·have hq0 : ¬ (((R1[0]'hp0).toNat : Int) < 48) := by omega
     by_cases h1 : 57 < n
     ·have hq1 : 57 < ((R1[0]'hp0).toNat : Int) := by omega
      clear hn h0 h1; have a0 := HA1.out.frozen 0; have a1 := HA1.out.frozen 1; have a2 := HA1.out.frozen 2; have a3 := HA1.out.frozen 3; have a4 := HA1.out.frozen 4; have a5 := HA1.out.frozen 5; have z0 := HA1.out.cell 0; have z1 := HA1.out.cell 1; have z2 := HA1.out.cell 2; have z3 := HA1.out.cell 3; have z4 := HA1.out.cell 4; have z5 := HA1.out.cell 5; simp only [qT, qZ, qS] at z0 z1 z2 z3 z4 z5; go_wp2_with fail; obtain ⟨Y, hY, hB, hE⟩ := fill6R HA1.out rfl HB1.out HRW.out (.int .i64 0) (.int .i64 0) (.int .i64 0) (.int .i64 0) (.slice none 0 0) (.slice none 0 0); rw [<- hY]; clear hY a0 z0 a1 z1 a2 z2 a3 z3 a4 z4 a5 z5; have r0 := hB.cell 0; have r1 := hB.cell 1; have r2 := hB.cell 2; have r3 := hB.cell 3; have r4 := hB.cell 4; have r5 := hB.cell 5; simp only [qT, qZ, qS] at r0 r1 r2 r3 r4 r5; refine bodyPost_ret (v := .tuple #[.agg #[.int .i64 0, .int .i64 0, .int .i64 0, .int .i64 0, .slice none 0 0, .slice none 0 0], .int .i64 4]) (by simp [results, Tryz.results180, go_sem, r0, r1, r2, r3, r4, r5]) rfl ?_; exact ⟨(0), (0), (0), (0), 4, rfl, hE⟩
     ·have hq1 : ¬ 57 < ((R1[0]'hp0).toNat : Int) := by omega
      have fz := HG1.out.frozen 2; have cz := HG1.out.cell 2; go_upto_region 8 with (fail); clear fz cz; obtain ⟨e2, he2⟩ : ∃ q : Int, q = ((R1[0]'hp0).toNat : Int) - 48 := ⟨_, rfl⟩
      rw [<- he2]; clear he2; obtain ⟨W2, hW⟩ : ∃ q, q = W1.setCell ⟨G, 2, none⟩ (.int .i64 e2) := ⟨_, rfl⟩
      have HG2 := Lh (show Blk G #[.int .i64 f, .int .i64 0, .int .i64 e2, .int .i64 0, .slice none 0 0, .slice none 0 0] 80 W2 from by rw [hW]; exact HG1.out.set 2 _); have HA2 := Lh (show Blk R #[.int .i64 0, .int .i64 0, .int .i64 0, .int .i64 0, .slice none 0 0, .slice none 0 0] 80 W2 from by rw [hW]; exact HA1.out.set_other HGR.out 2 _); have HB2 := Lh (show Below w.heap.size w W2 from by rw [hW]; exact HB1.out.setCell HGW.out _); rw [<- hW]; clear hW HG1 HA1 HB1; go_wp2_with fail; refine (Tryz.strings_CutPrefix _ _ _).mono ?_; rintro e w1 ⟨rfl, hx⟩; rw [hx]; clear hx w1; obtain ⟨R2, hq1⟩ : ∃ q : ByteArray, q = ⟨(Lib.trimPrefix (R1.extract 1 R1.size).data.toList (⟨#[59, 66, 89, 68, 65, 89, 61]⟩ : ByteArray).data.toList).toArray⟩ := ⟨_, rfl⟩
      obtain ⟨b3, hq2⟩ : ∃ q, q = Lib.hasPrefix (R1.extract 1 R1.size).data.toList (⟨#[59, 66, 89, 68, 65, 89, 61]⟩ : ByteArray).data.toList := ⟨_, rfl⟩
      rw [<- hq1, <- hq2]; clear hq1 hq2; cases b3
      ·have a0 := HA2.out.frozen 0; have a1 := HA2.out.frozen 1; have a2 := HA2.out.frozen 2; have a3 := HA2.out.frozen 3; have a4 := HA2.out.frozen 4; have a5 := HA2.out.frozen 5; have z0 := HA2.out.cell 0; have z1 := HA2.out.cell 1; have z2 := HA2.out.cell 2; have z3 := HA2.out.cell 3; have z4 := HA2.out.cell 4; have z5 := HA2.out.cell 5; simp only [qT, qZ, qS] at z0 z1 z2 z3 z4 z5; go_wp2_with fail; obtain ⟨Y, hY, hB, hE⟩ := fill6R HA2.out rfl HB2.out HRW.out (.int .i64 0) (.int .i64 0) (.int .i64 0) (.int .i64 0) (.slice none 0 0) (.slice none 0 0); rw [<- hY]; clear hY a0 z0 a1 z1 a2 z2 a3 z3 a4 z4 a5 z5; have r0 := hB.cell 0; have r1 := hB.cell 1; have r2 := hB.cell 2; have r3 := hB.cell 3; have r4 := hB.cell 4; have r5 := hB.cell 5; simp only [qT, qZ, qS] at r0 r1 r2 r3 r4 r5; refine bodyPost_ret (v := .tuple #[.agg #[.int .i64 0, .int .i64 0, .int .i64 0, .int .i64 0, .slice none 0 0, .slice none 0 0], .int .i64 4]) (by simp [results, Tryz.results180, go_sem, r0, r1, r2, r3, r4, r5]) rfl ?_; exact ⟨(0), (0), (0), (0), 4, rfl, hE⟩
      ·go_wp2_with fail; refine (weekdays257 R2 _).mono ?_; rintro e w1 ⟨rfl, hx⟩; rw [hx]; clear hx w1; obtain ⟨d3, hd3⟩ : ∃ q : Int, q = (Tt.wkGo 7 0 R2.data.toList).1 := ⟨_, rfl⟩
       obtain ⟨R3, hR3⟩ : ∃ q : ByteArray, q = ⟨(Tt.wkGo 7 0 R2.data.toList).2.toArray⟩ := ⟨_, rfl⟩
       rw [<- hd3, <- hR3]; clear hd3 hR3; have fz := HG2.out.frozen 3; have cz := HG2.out.cell 3; go_upto_region 12 with (fail); clear fz cz; obtain ⟨W3, hW⟩ : ∃ q, q = W2.setCell ⟨G, 3, none⟩ (.int .i64 d3) := ⟨_, rfl⟩
       have HG3 := Lh (show Blk G #[.int .i64 f, .int .i64 0, .int .i64 e2, .int .i64 d3, .slice none 0 0, .slice none 0 0] 80 W3 from by rw [hW]; exact HG2.out.set 3 _); have HA3 := Lh (show Blk R #[.int .i64 0, .int .i64 0, .int .i64 0, .int .i64 0, .slice none 0 0, .slice none 0 0] 80 W3 from by rw [hW]; exact HA2.out.set_other HGR.out 3 _); have HB3 := Lh (show Below w.heap.size w W3 from by rw [hW]; exact HB2.out.setCell HGW.out _); rw [<- hW]; clear hW HG2 HA2 HB2; go_wp2_with fail; refine (Tryz.strings_CutPrefix _ _ _).mono ?_; rintro e w1 ⟨rfl, hx⟩; rw [hx]; clear hx w1; obtain ⟨R4, hq1⟩ : ∃ q : ByteArray, q = ⟨(Lib.trimPrefix R3.data.toList (⟨#[59, 85, 78, 84, 73, 76, 61]⟩ : ByteArray).data.toList).toArray⟩ := ⟨_, rfl⟩
       obtain ⟨b4, hq2⟩ : ∃ q, q = Lib.hasPrefix R3.data.toList (⟨#[59, 85, 78, 84, 73, 76, 61]⟩ : ByteArray).data.toList := ⟨_, rfl⟩
       rw [<- hq1, <- hq2]; clear hq1 hq2; cases b4
       ·have a0 := HA3.out.frozen 0; have a1 := HA3.out.frozen 1; have a2 := HA3.out.frozen 2; have a3 := HA3.out.frozen 3; have a4 := HA3.out.frozen 4; have a5 := HA3.out.frozen 5; have z0 := HA3.out.cell 0; have z1 := HA3.out.cell 1; have z2 := HA3.out.cell 2; have z3 := HA3.out.cell 3; have z4 := HA3.out.cell 4; have z5 := HA3.out.cell 5; simp only [qT, qZ, qS] at z0 z1 z2 z3 z4 z5; go_wp2_with fail; obtain ⟨Y, hY, hB, hE⟩ := fill6R HA3.out rfl HB3.out HRW.out (.int .i64 0) (.int .i64 0) (.int .i64 0) (.int .i64 0) (.slice none 0 0) (.slice none 0 0); rw [<- hY]; clear hY a0 z0 a1 z1 a2 z2 a3 z3 a4 z4 a5 z5; have r0 := hB.cell 0; have r1 := hB.cell 1; have r2 := hB.cell 2; have r3 := hB.cell 3; have r4 := hB.cell 4; have r5 := hB.cell 5; simp only [qT, qZ, qS] at r0 r1 r2 r3 r4 r5; refine bodyPost_ret (v := .tuple #[.agg #[.int .i64 0, .int .i64 0, .int .i64 0, .int .i64 0, .slice none 0 0, .slice none 0 0], .int .i64 4]) (by simp [results, Tryz.results180, go_sem, r0, r1, r2, r3, r4, r5]) rfl ?_; exact ⟨(0), (0), (0), (0), 4, rfl, hE⟩
       ·go_wp2_with fail; refine (date258L R4 _ (HL.out _ HB3.out).1 (HL.out _ HB3.out).2).mono ?_; rintro e W4 ⟨n5, ok5, rfl, hb⟩; have HG4 := Lh (HG3.out.below hb HG3.out.lt); have HA4 := Lh (HA3.out.below hb HA3.out.lt); have HB4 := Lh (HB3.out.trans (hb.mono HB3.out.size)); clear hb HG3 HA3 HB3; have fz := HG4.out.frozen 1; have cz := HG4.out.cell 1; go_upto_region 16 with (fail); clear fz cz; obtain ⟨W5, hW⟩ : ∃ q, q = W4.setCell ⟨G, 1, none⟩ (.int .i64 n5) := ⟨_, rfl⟩
        have HG5 := Lh (show Blk G #[.int .i64 f, .int .i64 n5, .int .i64 e2, .int .i64 d3, .slice none 0 0, .slice none 0 0] 80 W5 from by rw [hW]; exact HG4.out.set 1 _); have HA5 := Lh (show Blk R #[.int .i64 0, .int .i64 0, .int .i64 0, .int .i64 0, .slice none 0 0, .slice none 0 0] 80 W5 from by rw [hW]; exact HA4.out.set_other HGR.out 1 _); have HB5 := Lh (show Below w.heap.size w W5 from by rw [hW]; exact HB4.out.setCell HGW.out _); rw [<- hW]; clear hW HG4 HA4 HB4; cases ok5
        ·have a0 := HA5.out.frozen 0; have a1 := HA5.out.frozen 1; have a2 := HA5.out.frozen 2; have a3 := HA5.out.frozen 3; have a4 := HA5.out.frozen 4; have a5 := HA5.out.frozen 5; have z0 := HA5.out.cell 0; have z1 := HA5.out.cell 1; have z2 := HA5.out.cell 2; have z3 := HA5.out.cell 3; have z4 := HA5.out.cell 4; have z5 := HA5.out.cell 5; simp only [qT, qZ, qS] at z0 z1 z2 z3 z4 z5; go_wp2_with fail; obtain ⟨Y, hY, hB, hE⟩ := fill6R HA5.out rfl HB5.out HRW.out (.int .i64 0) (.int .i64 0) (.int .i64 0) (.int .i64 0) (.slice none 0 0) (.slice none 0 0); rw [<- hY]; clear hY a0 z0 a1 z1 a2 z2 a3 z3 a4 z4 a5 z5; have r0 := hB.cell 0; have r1 := hB.cell 1; have r2 := hB.cell 2; have r3 := hB.cell 3; have r4 := hB.cell 4; have r5 := hB.cell 5; simp only [qT, qZ, qS] at r0 r1 r2 r3 r4 r5; refine bodyPost_ret (v := .tuple #[.agg #[.int .i64 0, .int .i64 0, .int .i64 0, .int .i64 0, .slice none 0 0, .slice none 0 0], .int .i64 4]) (by simp [results, Tryz.results180, go_sem, r0, r1, r2, r3, r4, r5]) rfl ?_; exact ⟨(0), (0), (0), (0), 4, rfl, hE⟩
        ·have g0 := HG5.out.cell 0; have g1 := HG5.out.cell 1; have g2 := HG5.out.cell 2; have g3 := HG5.out.cell 3; have g4 := HG5.out.cell 4; have g5 := HG5.out.cell 5; simp only [qT, qZ, qS] at g0 g1 g2 g3 g4 g5; go_wp2_with fail; refine (valid145_any ⟨f, n5, e2, d3, [], []⟩ 0 W5 (by simp) (by simp) none none 0 0 (Nat.zero_le _) (fun j x hj => by simp at hj) (fun j x hj => by simp at hj)).mono ?_; rintro e W6 ⟨rfl, hb⟩; have HG6 := Lh (HG5.out.below hb HG5.out.lt); have HA6 := Lh (HA5.out.below hb HA5.out.lt); have HB6 := Lh (HB5.out.trans (hb.mono HB5.out.size)); clear hb HG5 HA5 HB5 g0 g1 g2 g3 g4 g5; obtain ⟨v6, hv6⟩ : ∃ q, q = Tt.serV ⟨f, n5, e2, d3, [], []⟩ := ⟨_, rfl⟩
         rw [<- hv6]; clear hv6; by_cases h6 : v6 = 0
         ·subst h6; have g0 := HG6.out.cell 0; have g1 := HG6.out.cell 1; have g2 := HG6.out.cell 2; have g3 := HG6.out.cell 3; have g4 := HG6.out.cell 4; have g5 := HG6.out.cell 5; simp only [qT, qZ, qS] at g0 g1 g2 g3 g4 g5; have a0 := HA6.out.frozen 0; have a1 := HA6.out.frozen 1; have a2 := HA6.out.frozen 2; have a3 := HA6.out.frozen 3; have a4 := HA6.out.frozen 4; have a5 := HA6.out.frozen 5; have z0 := HA6.out.cell 0; have z1 := HA6.out.cell 1; have z2 := HA6.out.cell 2; have z3 := HA6.out.cell 3; have z4 := HA6.out.cell 4; have z5 := HA6.out.cell 5; simp only [qT, qZ, qS] at z0 z1 z2 z3 z4 z5; go_wp2_with fail; obtain ⟨Y, hY, hB, hE⟩ := fill6R HA6.out rfl HB6.out HRW.out (.int .i64 f) (.int .i64 n5) (.int .i64 e2) (.int .i64 d3) (.slice none 0 0) (.slice none 0 0); rw [<- hY]; clear hY a0 z0 a1 z1 a2 z2 a3 z3 a4 z4 a5 z5; have r0 := hB.cell 0; have r1 := hB.cell 1; have r2 := hB.cell 2; have r3 := hB.cell 3; have r4 := hB.cell 4; have r5 := hB.cell 5; simp only [qT, qZ, qS] at r0 r1 r2 r3 r4 r5; refine bodyPost_ret (v := .tuple #[.agg #[.int .i64 f, .int .i64 n5, .int .i64 e2, .int .i64 d3, .slice none 0 0, .slice none 0 0], .int .i64 0]) (by simp [results, Tryz.results180, go_sem, r0, r1, r2, r3, r4, r5]) rfl ?_; exact ⟨(f), (n5), (e2), (d3), 0, rfl, hE⟩
         ·have hq6 : (v6 != 0) = true := by simp [h6]
          clear h6; have a0 := HA6.out.frozen 0; have a1 := HA6.out.frozen 1; have a2 := HA6.out.frozen 2; have a3 := HA6.out.frozen 3; have a4 := HA6.out.frozen 4; have a5 := HA6.out.frozen 5; have z0 := HA6.out.cell 0; have z1 := HA6.out.cell 1; have z2 := HA6.out.cell 2; have z3 := HA6.out.cell 3; have z4 := HA6.out.cell 4; have z5 := HA6.out.cell 5; simp only [qT, qZ, qS] at z0 z1 z2 z3 z4 z5; go_wp2_with fail; obtain ⟨Y, hY, hB, hE⟩ := fill6R HA6.out rfl HB6.out HRW.out (.int .i64 0) (.int .i64 0) (.int .i64 0) (.int .i64 0) (.slice none 0 0) (.slice none 0 0); rw [<- hY]; clear hY a0 z0 a1 z1 a2 z2 a3 z3 a4 z4 a5 z5; have r0 := hB.cell 0; have r1 := hB.cell 1; have r2 := hB.cell 2; have r3 := hB.cell 3; have r4 := hB.cell 4; have r5 := hB.cell 5; simp only [qT, qZ, qS] at r0 r1 r2 r3 r4 r5; refine bodyPost_ret (v := .tuple #[.agg #[.int .i64 0, .int .i64 0, .int .i64 0, .int .i64 0, .slice none 0 0, .slice none 0 0], .int .i64 3]) (by simp [results, Tryz.results180, go_sem, r0, r1, r2, r3, r4, r5]) rfl ?_; exact ⟨(0), (0), (0), (0), 3, rfl, hE⟩
section
variable {P : Program} {ops : Array Oper} {Q : Exit -> Act -> World -> Prop}
end
end Go.Proofs.YtageielcdebjlaaGreatDoor
