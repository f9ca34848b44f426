/- timetableref39.Days: its contract: the days of the series. timetablemore.many: its contract: a number. recurrence.regulars: the iterator over the regular days of a series; slices.Clone and Contains at whole numbers. DERIVED: THE SHELF's CONTRACTS AT THIS DUMP, IN PLAIN WORDS (tools/lay-plain.mjs out of 'TryzSort.lean', which tools/lay-shelf.mjs wrote): THE SAME DECLARATIONS UNDER THE SAME NAMES: 'import', 'namespace', 'open', 'def', 'theorem' AND NOTHING ELSE: no command of the shelf's: FOR A HAND-IN. Each laying: the table of numbers ('.._ren') and one theorem, a field a fact of the dump's own or the kernel's comparison; each contract: ONE APPLICATION. recurrence.Days: its contract. -/
import Derived.Test.YtageielcdebjlaaGreatDoorPk3
import Derived.RangeFuncNested
import Derived.RangeFuncBound
import Derived.RangeFuncCalls
import Derived.RangeFuncLeaves
import Derived.RangeFuncBox
import Derived.Shelf.Abstract
import Derived.Shelf.RegionOpen
import Derived.WalkKit
import Derived.OwnWalkIn
import Derived.TacticsInMore
import Derived.LoopNIn
import Derived.LoopIn
import Derived.Maps.AppendAt
import Derived.Test.YtageielcdebjlaaGreatDoorPk2
import Derived.Shelf.Sort.Plain
import Derived.Shelf.Slices.In.SortNone
import Derived.Test.YtageielcdebjlaaGreatDoorProg
import Derived.Sort.OwnSortedInts
-- SerD
namespace Go.Proofs.YtageielcdebjlaaGreatDoor
open Go.RowKit

theorem Ints.form {B : Nat} {w : World} {ao : Option Addr} {xs : List Int} (h : Ints B w ao xs) (hne : 0 < xs.length) :
    ∃ b o, ao = some ⟨b, o, none⟩ ∧ b < B ∧ ∀ (j : Nat) (x : Int), xs[j]? = some x → w.cell? ⟨b, o + j, none⟩ = some (.int .i64 x) := by
  obtain ⟨⟨b, o, sp⟩, ha, hlt, hc⟩ := h 0 _ (List.getElem?_eq_getElem hne)
  rw [Addr.add_zero'] at hc
  have hsp : sp = none := World.cell?_spot hc
  subst hsp; refine ⟨b, o, ha, hlt, fun j x hx => ?_⟩
  obtain ⟨a', ha', _, hc'⟩ := h j x hx
  rw [ha] at ha'
  cases ha'
  rw [Addr.add_lit] at hc'
  exact hc'

-- DAYS
theorem valid145_any (s : Tt.Ser) (B : Nat) (w : World) (hn : s.ex.length ≤ 4611686018427387903) (hn2 : s.xt.length ≤ 4611686018427387903) (ao ao' : Option Addr) (c c' : Nat) (hB : B ≤ w.heap.size) (hI : Ints B w ao s.ex) (hI' : Ints B w ao' s.xt) :
    Calls Tryz.prog 145 #[serVal s (.slice ao s.ex.length c) (.slice ao' s.xt.length c')] w fun e w' => e = .returned (.int .i64 (Tt.serV s)) ∧ Below w.heap.size w w' := by
  by_cases h : Tt.headV s = 0
  · exact valid145_body s B w ((Tt.headV_zero s).1 h) ao ao' c c' hB hI hI'
  · rw [Tt.serV_head s h]; exact valid145_head s w h hn hn2 ao ao' c c'

theorem filter_snoc {α : Type} (f : α → Bool) (l : List α) (x : α) : (l ++ [x]).filter f = l.filter f ++ (if f x = true then [x] else []) := by
  rw [List.filter_append]; cases h : f x <;> simp [h]
theorem ownsRow_mono {w : World} {B B' : Nat} {e : TypeId} {size : Nat} {v : Value} {n : Nat} {xs : List Value} (h : w.ownsRow B e size v n xs) (hB : B' ≤ B) : w.ownsRow B' e size v n xs := by
  refine ⟨h.1, ?_⟩
  rcases h.2 with h1 | ⟨g, cap, cur, r1, r2, r3⟩
  · exact .inl h1
  · exact .inr ⟨g, cap, cur, r1, by omega, r3⟩
theorem infoInt : (Tryz.prog.info? 3).map (fun i => (i.zero, i.size, i.bytes)) = some (some (.int .i64 0), 1, 8) := by kernel_rfl

end Go.Proofs.YtageielcdebjlaaGreatDoor

-- Many
namespace Go.Proofs.YtageielcdebjlaaGreatDoor
open Go.RowKit

/-- The bounds of a drawn series. -/
structure SerG (s : Tt.Ser) : Prop where
  f0 : 1 ≤ s.first
  f1 : s.first ≤ 40000
  l1 : s.last ≤ 36000
  e0 : 1 ≤ s.every
  e1 : s.every ≤ 4
  w0 : 0 ≤ s.wd
  w1 : s.wd ≤ 127
  ex : s.ex.length ≤ 1000
  xt : s.xt.length ≤ 1000

set_option maxHeartbeats 8000000 in
set_option maxRecDepth 100000 in
theorem many153v (s : Tt.Ser) (w : World) (hs : SerG s) (ao ao' : Option Addr) (c c' : Nat) :
    Calls Tryz.prog 153 #[serVal s (.slice ao s.ex.length c) (.slice ao' s.xt.length c')] w fun e w' => e = .returned (.int .i64 (Tt.manyV s)) ∧ Below w.heap.size w w' := by
  have S0 : SerAt w.heap.size s (.slice ao s.ex.length c) (.slice ao' s.xt.length c') (w.alloc (.cells #[.int .i64 s.first, .int .i64 s.last, .int .i64 s.every, .int .i64 s.wd, .slice ao s.ex.length c, .slice ao' s.xt.length c'] 80)) := heap_alloc_new w _
  have HS0 := Lib.hid S0; obtain ⟨f0, f1, l1, e0', e1', w0, w1, hx, hx'⟩ := hs; clear S0; unfold serVal
  obtain ⟨ex, hex⟩ : ∃ n, n = s.ex.length := ⟨_, rfl⟩
  obtain ⟨xt, hxt⟩ : ∃ n, n = s.xt.length := ⟨_, rfl⟩
  rw [← hex, ← hxt] at HS0 ⊢
  rw [← hex] at hx
  rw [← hxt] at hx'
  have HMU := Lib.hid (show ∀ d, (d = s.last + 1 ∨ d = s.first ∧ s.last < d) → Tt.manyV s = (xt : Int) - ex + Tt.upto s d from by rw [hex, hxt]; exact Tt.many_upto s)
  clear hex hxt; go_enter Tryz.func153, Tryz.ntmps153
  obtain ⟨e0, e1, e2, e3, e4, e5⟩ := HS0.out.cells
  have hm0 := Int.emod_nonneg (s.first + 5) (show (7 : Int) ≠ 0 by omega)
  have hm1 := Int.emod_lt_of_pos (s.first + 5) (show (0 : Int) < 7 by omega)
  go_wp2_with fail
  obtain ⟨M, hM⟩ : ∃ M, M = s.first - (s.first + 5) % 7 := ⟨_, rfl⟩
  rw [← hM]; have hM0 : M ≤ s.first := by omega
  have hM1 : s.first ≤ M + 6 := by omega
  have HM := Lib.hid hM; have HU0 := Lib.hid (Tt.upto_start s)
  have HUL := Lib.hid (Tt.upto_le s)
  clear hM hm0 hm1 e0 e1 e2 e3 e4 e5; go_loopw [3, 5] (fun nv dv wr => ∃ n d : Int, nv = .int .i64 n ∧ dv = .int .i64 d ∧ s.first ≤ d ∧ d ≤ 40001 ∧ -1000 ≤ n ∧ n ≤ 1000 + (d - s.first) ∧ Hid (n = (xt : Int) - ex + Tt.upto s d) ∧ Hid (d = s.first ∨ d ≤ s.last + 1) ∧ Below w.heap.size w wr ∧ Hid (SerAt w.heap.size s (.slice ao ex c) (.slice ao' xt c') wr)) (fun _ dv _ => (40001 - intOf dv).toNat)
  case atStart => exact ⟨_, _, rfl, rfl, by omega, by omega, by omega, by omega, Lib.hid (by rw [HU0.out]; simp), Lib.hid (.inl rfl), below_box _ _, HS0.out⟩
  case round =>
    obtain ⟨n, d, rfl, rfl, d0, d1, n0, n1, HN, HD, hbe, HS⟩ := hrel; obtain ⟨e0, e1, e2, e3, e4, e5⟩ := HS.out.cells
    have hm0 := Int.emod_nonneg (d + 5) (show (7 : Int) ≠ 0 by omega)
    have hm1 := Int.emod_lt_of_pos (d + 5) (show (0 : Int) < 7 by omega)
    have hq0 : 0 ≤ (d - M) / 7 := by omega
    have hq1 : (d - M) / 7 ≤ 6000 := by omega
    have hz := Int.emod_nonneg ((d - M) / 7) (show s.every ≠ 0 by omega)
    have hz1 := Int.emod_lt_of_pos ((d - M) / 7) (show 0 < s.every by omega)
    by_cases hle : d ≤ s.last
    · have HRG := Lib.hid (show Tt.regB s d = ((bits .and .i64 (s.wd / 2 ^ ((d + 5) % 7).toNat) 1 == 1) && ((d - M) / 7 % s.every == 0)) from by rw [Tt.reg_of d0 hle, Tt.cnt_of HM.out d0, ← bit_is s.wd (Tt.wk d) w0 (by omega)]; rfl)
      have HUS := Lib.hid (Tt.upto_step s d d0)
      cases hb1 : (bits .and .i64 (s.wd / 2 ^ ((d + 5) % 7).toNat) 1 == 1)
      · have HRD := Lib.hid (show Tt.upto s (d + 1) = Tt.upto s d from by rw [HUS.out, if_neg (by rw [HRG.out, hb1]; simp)]; rfl)
        clear HRG HUS HMU HM; go_wp2_with fail
        go_roundw
        case rel => exact ⟨_, d + 1, rfl, rfl, by omega, by omega, by omega, by omega, Lib.hid (by have h1 := HRD.out; have h2 := HN.out; omega), Lib.hid (.inr (by omega)), hbe, HS.out⟩
        case measure => simp [intOf]; omega
      · cases hq : ((d - M) / 7 % s.every == 0)
        · have HRD := Lib.hid (show Tt.upto s (d + 1) = Tt.upto s d from by rw [HUS.out, if_neg (by rw [HRG.out, hb1, hq]; simp)]; rfl)
          clear HRG HUS HMU HM; go_wp2_with fail
          go_roundw
          case rel => exact ⟨_, d + 1, rfl, rfl, by omega, by omega, by omega, by omega, Lib.hid (by have h1 := HRD.out; have h2 := HN.out; omega), Lib.hid (.inr (by omega)), hbe, HS.out⟩
          case measure => simp [intOf]; omega
        · have HRD := Lib.hid (show Tt.upto s (d + 1) = Tt.upto s d + 1 from by rw [HUS.out, if_pos (by rw [HRG.out, hb1, hq]; rfl)])
          clear HRG HUS HMU HM; go_wp2_with fail
          go_roundw
          case rel => exact ⟨_, d + 1, rfl, rfl, by omega, by omega, by omega, by omega, Lib.hid (by have h1 := HRD.out; have h2 := HN.out; omega), Lib.hid (.inr (by omega)), hbe, HS.out⟩
          case measure => simp [intOf]; omega
    · have HE := Lib.hid (HMU.out d (by have := HD.out; omega))
      go_wp2_with fail
      go_ret; exact ⟨ret_int (by rw [HE.out, ← HN.out]), hbe⟩
end Go.Proofs.YtageielcdebjlaaGreatDoor

-- Days1
namespace Go.Proofs.YtageielcdebjlaaGreatDoor
open Go.RowKit Go.Shelf

theorem contains148 (B : Nat) (ao : Option Addr) (c : Nat) (xs : List Int) (x : Int) (w : World) (hI : Ints B w ao xs) (hn : xs.length ≤ 4611686018427387903) :
    Calls Tryz.prog 148 #[.slice ao xs.length c, .int .i64 x] w fun e w' => e = .returned (.bool (decide (x ∈ xs))) ∧ w' = w := by
  rcases Nat.eq_zero_or_pos xs.length with h0 | h0
  · have : xs = [] := List.eq_nil_of_length_eq_zero h0
    subst this; refine (Tryz.slices_Contains_int_empty ao c x w).mono ?_
    rintro e w' ⟨rfl, rfl⟩; exact ⟨ret_bool (by simp), rfl⟩
  · obtain ⟨b, o, rfl, _, hc⟩ := hI.form h0
    refine (Tryz.slices_Contains_int b o xs.length c xs x w (Nat.le_refl _) (by omega) (fun j hj => ?_)).mono ?_
    · rw [hc j _ (List.getElem?_eq_getElem hj)]; simp [List.getD_eq_getElem?_getD, hj]
    · rintro e w' ⟨rfl, rfl⟩; exact ⟨ret_bool (by rw [List.take_length]; simp), rfl⟩

theorem clone146 (B : Nat) (ao : Option Addr) (c : Nat) (xs : List Int) (w : World) (hI : Ints B w ao xs) (hn : xs.length ≤ 1000000) :
    Calls Tryz.prog 146 #[.slice ao xs.length c] w fun e w' => ∃ v', e = .returned v' ∧ w'.ownsRow w.heap.size 3 1 v' xs.length (xs.map (Value.int .i64)) ∧ Below w.heap.size w w' := by
  rcases Nat.eq_zero_or_pos xs.length with h0 | h0
  · have : xs = [] := List.eq_nil_of_length_eq_zero h0
    subst this; cases ao with
    | none =>
      refine (Tryz.slices_Clone_int_nil _ c w).mono ?_
      rintro e w' ⟨rfl, rfl⟩; exact ⟨_, rfl, World.ownsRow_nil _ _ _ _, Below.refl _ _⟩
    | some a =>
      refine (Tryz.slices_Clone_int_zero a c w).mono ?_
      rintro e w' ⟨v', rfl, h1, _, h2⟩; exact ⟨_, rfl, h1, h2⟩
  · obtain ⟨b, o, rfl, _, hc⟩ := hI.form h0
    refine (Tryz.slices_Clone_int b o xs.length c xs w (Nat.le_refl _) (by omega) (fun j hj => ?_)).mono ?_
    · rw [hc j _ (List.getElem?_eq_getElem hj)]; simp [List.getD_eq_getElem?_getD, hj]
    · rintro e w' ⟨v', rfl, h1, _, h2⟩; rw [List.take_length] at h1
      exact ⟨_, rfl, h1, h2⟩

set_option maxHeartbeats 1000000 in
theorem regulars147 (s : Tt.Ser) (ao ao' : Option Addr) (n n' c c' : Nat) (w : World) :
    Calls Tryz.prog 147 #[serVal s (.slice ao n c) (.slice ao' n' c')] w fun e w' => e = .returned (.func (.func 221) #[] #[.pointer (some ⟨w.heap.size, 0, none⟩)]) ∧ w' = w.alloc (.cells #[.int .i64 s.first, .int .i64 s.last, .int .i64 s.every, .int .i64 s.wd, .slice ao n c, .slice ao' n' c'] 80) := by
  unfold serVal
  go_enter Tryz.func147, Tryz.ntmps147
  go_wp2_with fail
  go_ret; exact ⟨rfl, rfl⟩

attribute [local go_sem] Oper.semAt_some

/-- The regular days of a series, among its first k days. -/
def regTo (s : Tt.Ser) (k : Nat) : List Int := (Tt.daysFrom s.first k).filter (Tt.regB s)
theorem regTo_succ (s : Tt.Ser) (k : Nat) : regTo s (k + 1) = regTo s k ++ (if Tt.regB s (s.first + k) = true then [s.first + k] else []) := by
  unfold regTo; rw [Tt.daysFrom_snoc, filter_snoc]
theorem regTo_le (s : Tt.Ser) (k : Nat) : (regTo s k).length ≤ k := by
  have := List.length_filter_le (Tt.regB s) (Tt.daysFrom s.first k)
  rw [Tt.daysFrom_length] at this; exact this

/-- A block is as it was. -/
def Kp0 (b : Nat) (W W' : World) : Prop := W'.heap[b]? = W.heap[b]?

theorem below_grown {w w' : World} (h : Below w.heap.size w w') : w.grownBy w' none := ⟨h.os, h.tape, h.output, h.size, fun k hk _ => h.block k hk⟩

set_option maxRecDepth 100000 in
set_option maxHeartbeats 4000000 in
theorem regulars221 (n : Nat) (hn : 1 ≤ n) (l Bs : Nat) (s : Tt.Ser) (hh : Tt.Head s) (ao ao' : Option Addr) (m m' c c' : Nat) (J Jx : List Int → World → Prop)
    (W : World) (hJ : AbidesFrom W.heap.size J)
    (hY : ∀ pre x W, J pre W → pre.length < 141 → YieldAt Fence.wide (n - 1) Tryz.prog l #[.int .i64 x] W fun e W' =>
      (e = .returned (.bool true) ∧ J (pre ++ [x]) W' ∧ Kp0 Bs W W') ∨ (e = .returned (.bool false) ∧ Jx (pre ++ [x]) W'))
    (hS : SerAt Bs s (.slice ao m c) (.slice ao' m' c') W) (h0 : J [] W) :
    CallsIn Fence.wide n Tryz.prog 221 #[.func (.yield l) #[] #[], .pointer (some ⟨Bs, 0, none⟩)] W fun e W' => (∃ v, e = .returned v) ∧
      ((∃ ys, ys = regTo s (s.last - s.first + 1).toNat ∧ J ys W') ∨ (∃ pre, True ∧ Jx pre W')) := by
  have hf : Tt.isD s.first = true := (Tt.isD_iff _).2 ⟨hh.f0, hh.f1⟩
  have hl : Tt.isD s.last = true := (Tt.isD_iff _).2 ⟨hh.l0, hh.l1⟩
  have R := fun d W => regular220_any s d W hf hl hh.e0 hh.e1 hh.w0 hh.w1
  have HR := Lib.hid R; have HY := Lib.hid hY; have HJ := Lib.hid hJ; have HS := Lib.hid hS; obtain ⟨a1, a2, a3, a4, a5, a6, a7, a8, a9, a10, a11⟩ := hh; obtain ⟨e0, e1, e2, e3, e4, e5⟩ := hS.cells
  clear hf hl R hY hJ hS; refine callsIn_of_wp Tryz.func221 rfl trivial ?_ rfl
  simp only [Tryz.ntmps221, List.size_toArray, List.length_cons, List.length_nil, Nat.reduceAdd, Nat.reduceSub, Array.replicate_succ, Array.replicate_zero, List.push_toArray, List.append_toArray, List.nil_append, List.cons_append]
  gi_wp2
  clear e0 e1 e2 e3 e4 e5; gi_loopw [3] (fun i wr => ∃ k : Nat, (k : Int) ≤ s.last - s.first + 1 ∧ i = .int .i64 (s.first + k) ∧ J (regTo s k) wr ∧ Hid (Kp0 Bs W wr))
    (fun i _ => (s.last + 1 - intOf i).toNat)
  case atStart => exact ⟨0, by omega, by go_num, h0, (show Kp0 Bs W W from rfl)⟩
  case round =>
    obtain ⟨k, hk, rfl, hJs, hnx⟩ := hrel; have HA := Lib.hid (HS.out.block hnx.out)
    obtain ⟨e0, e1, e2, e3, e4, e5⟩ := HA.out.cells
    have hsz := HA.out.lt; by_cases hlt : s.first + k ≤ s.last
    · have hkn : (regTo s k).length < 141 := by have := regTo_le s k; omega
      have HT := Lib.hid (regTo_succ s k)
      gi_wp2_with fail
      refine ⟨trivial, ?_⟩
      refine (callsIn_wide.2 (HR.out (s.first + k) _ _ _ _ _ _ _)).mono ?_
      rintro e w1 ⟨rfl, hb1⟩; have hJ1 := HJ.out _ _ _ none hJs (below_grown hb1) (fun r h => by cases h)
      have hnx1 : Hid (Kp0 Bs W w1) := (hb1.block _ hsz).trans hnx.out
      have HA1 := Lib.hid (HA.out.block (hb1.block _ hsz))
      clear e0 e1 e2 e3 e4 e5 hnx HA hb1 hsz hJs; obtain ⟨e0, e1, e2, e3, e4, e5⟩ := HA1.out.cells
      cases hr : Tt.regB s (s.first + k)
      · have HT1 := Lib.hid (show regTo s (k + 1) = regTo s k by rw [HT.out, hr]; simp)
        clear hr; gi_wp2_with fail
        refine ⟨fun _ h => (by cases h), ?_⟩
        gi_wp2
        go_roundw
        case rel => exact ⟨k + 1, by omega, by go_num, by rw [HT1.out]; exact hJ1, hnx1.out⟩
        case measure => simp [intOf]; omega
      · have HT1 := Lib.hid (show regTo s (k + 1) = regTo s k ++ [s.first + k] by rw [HT.out, hr]; simp)
        clear hr; obtain ⟨fn, tmps, assign, body, hy, hRR⟩ := HY.out (regTo s k) (s.first + k) w1 hJ1 hkn
        gi_wp2
        refine hRR.mono ?_
        rintro e W3 (⟨rfl, hJ3, hk3⟩ | ⟨rfl, hJx3⟩)
        · have HA3 := Lib.hid (HA1.out.block hk3)
          clear e0 e1 e2 e3 e4 e5 HA1; gi_wp2
          go_roundw
          case rel => exact ⟨k + 1, by omega, by go_num, by rw [HT1.out]; exact hJ3, (show Kp0 Bs W W3 from Eq.trans hk3 hnx1.out)⟩
          case measure => simp [intOf]; omega
        · gi_wp2
          refine bodyPost_ret (results_none rfl _ _ _) rfl ?_
          exact ⟨⟨_, rfl⟩, .inr ⟨_, trivial, hJx3⟩⟩
    · have hke : k = (s.last - s.first + 1).toNat := by omega
      gi_wp2
      go_end0
      exact ⟨⟨_, rfl⟩, .inl (by rw [← hke]; exact hJs)⟩
end Go.Proofs.YtageielcdebjlaaGreatDoor

-- Sort
namespace Go.Proofs
open Go.Shelf
def Tryz.lays189_ren : Go.Shelf.Ren := ⟨fun | 189 => 149 | 125 => 158 | 257 => 223 | 128 => 229 | 129 => 230 | 294 => 283 | 295 => 284 | 296 => 285 | 297 => 286 | 298 => 287 | 299 => 288 | 216 => 289 | 300 => 290 | 301 => 291 | 328 => 332 | 329 => 324 | 330 => 325 | 331 => 333 | 332 => 334 | 215 => 320 | 343 => 350 | n => n, fun | 28 => 27 | 3 => 3 | 46 => 185 | 0 => 0 | 51 => 243 | 53 => 245 | 4 => 4 | 183 => 273 | 182 => 272 | 131 => 129 | 5 => 5 | 9 => 9 | 218 => 306 | 222 => 292 | 228 => 327 | 229 => 317 | n => n, fun | n => n⟩
theorem Tryz.lays189 : Go.Proofs.Lays.n189 Tryz.prog Tryz.lays189_ren := {
  mixed := by kernel_rfl
  f125 := Tryz.func158.trans (congrArg some (by kernel_rfl))
  f128 := Tryz.func229.trans (congrArg some (by kernel_rfl))
  f129 := Tryz.func230.trans (congrArg some (by kernel_rfl))
  f189 := Tryz.func149.trans (congrArg some (by kernel_rfl))
  f215 := Tryz.func320.trans (congrArg some (by kernel_rfl))
  f216 := Tryz.func289.trans (congrArg some (by kernel_rfl))
  f257 := Tryz.func223.trans (congrArg some (by kernel_rfl))
  f294 := Tryz.func283.trans (congrArg some (by kernel_rfl))
  f295 := Tryz.func284.trans (congrArg some (by kernel_rfl))
  f296 := Tryz.func285.trans (congrArg some (by kernel_rfl))
  f297 := Tryz.func286.trans (congrArg some (by kernel_rfl))
  f298 := Tryz.func287.trans (congrArg some (by kernel_rfl))
  f299 := Tryz.func288.trans (congrArg some (by kernel_rfl))
  f300 := Tryz.func290.trans (congrArg some (by kernel_rfl))
  f301 := Tryz.func291.trans (congrArg some (by kernel_rfl))
  f328 := Tryz.func332.trans (congrArg some (by kernel_rfl))
  f329 := Tryz.func324.trans (congrArg some (by kernel_rfl))
  f330 := Tryz.func325.trans (congrArg some (by kernel_rfl))
  f331 := Tryz.func333.trans (congrArg some (by kernel_rfl))
  f332 := Tryz.func334.trans (congrArg some (by kernel_rfl))
  f343 := Tryz.func350.trans (congrArg some (by kernel_rfl))
  t0 := Tryz.underlying0
  a0 := Tryz.isAgg0
  z0 := Tryz.sizeOf0
  v0 := Tryz.zeroValue0
  t3 := Tryz.underlying3
  a3 := Tryz.isAgg3
  z3 := Tryz.sizeOf3
  v3 := Tryz.zeroValue3
  t4 := Tryz.underlying4
  a4 := Tryz.isAgg4
  z4 := Tryz.sizeOf4
  v4 := Tryz.zeroValue4
  t5 := Tryz.underlying5
  a5 := Tryz.isAgg5
  z5 := Tryz.sizeOf5
  v5 := Tryz.zeroValue5
  t9 := Tryz.underlying9
  a9 := Tryz.isAgg9
  z9 := Tryz.sizeOf9
  v9 := Tryz.zeroValue9
  t28 := Tryz.underlying27
  a28 := Tryz.isAgg27
  z28 := Tryz.sizeOf27
  v28 := Tryz.zeroValue27
  t46 := Tryz.underlying185
  a46 := Tryz.isAgg185
  z46 := Tryz.sizeOf185
  v46 := Tryz.zeroValue185
  t51 := Tryz.underlying243
  a51 := Tryz.isAgg243
  z51 := Tryz.sizeOf243
  v51 := Tryz.zeroValue243
  t53 := Tryz.underlying245
  a53 := Tryz.isAgg245
  z53 := Tryz.sizeOf245
  v53 := Tryz.zeroValue245
  t131 := Tryz.underlying129
  a131 := Tryz.isAgg129
  z131 := Tryz.sizeOf129
  v131 := Tryz.zeroValue129
  t182 := Tryz.underlying272
  a182 := Tryz.isAgg272
  z182 := Tryz.sizeOf272
  v182 := Tryz.zeroValue272
  t183 := Tryz.underlying273
  a183 := Tryz.isAgg273
  z183 := Tryz.sizeOf273
  v183 := Tryz.zeroValue273
  t218 := Tryz.underlying306
  a218 := Tryz.isAgg306
  z218 := Tryz.sizeOf306
  v218 := Tryz.zeroValue306
  t222 := Tryz.underlying292
  a222 := Tryz.isAgg292
  z222 := Tryz.sizeOf292
  v222 := Tryz.zeroValue292
  t228 := Tryz.underlying327
  a228 := Tryz.isAgg327
  z228 := Tryz.sizeOf327
  v228 := Tryz.zeroValue327
  t229 := Tryz.underlying317
  a229 := Tryz.isAgg317
  z229 := Tryz.sizeOf317
  v229 := Tryz.zeroValue317 }
open Go.Sort Go.RowKit in
theorem Tryz.slices_Sort_int (blk off cap : Nat) (zs : List Int) (w : World) (hH : Holds (Value.int .i64) w blk off zs.toArray) (hblk : blk < w.heap.size) (hsz : zs.length < 4611686018427387904) :
    Calls Tryz.prog 149 #[.slice (some ⟨blk, off, none⟩) zs.length cap] w fun e w' =>
      e = .returned (.tuple #[]) ∧ ∃ n os, w' = grow (putRow (Value.int .i64) (Sort.ahead w n) blk off (zs.mergeSort fun x y => decide (x ≤ y)).toArray) os := Any.slices_Sort_int Tryz.lays189 blk off cap zs w hH hblk hsz
open Go.RowKit Go.Sort in
/-- .. and plain. (LAID: no walk: one application.) -/
theorem Tryz.slices_Sort_int_none (p : Option Addr) (cap : Nat) (w : World) :
    Calls Tryz.prog 149 #[.slice p 0 cap] w fun e w' => e = .returned (.tuple #[]) ∧ w' = w := Any.slices_Sort_int_none Tryz.lays189 p cap w
end Go.Proofs

-- Days2
namespace Go.Proofs.YtageielcdebjlaaGreatDoor
open Go.RowKit Go.Shelf

theorem sort149 (base : Nat) (v : Value) (zs : List Int) (w : World) (hown : w.ownsRow base 3 1 v zs.length (zs.map (Value.int .i64))) (hn : zs.length ≤ 1000000) :
    Calls Tryz.prog 149 #[v] w fun e w' => e = .returned (.tuple #[]) ∧ w'.ownsRow base 3 1 v zs.length ((zs.mergeSort fun x y => decide (x ≤ y)).map (Value.int .i64)) ∧ w.grownBy w' v.ownBlock := by
  rcases hown.2 with ⟨rfl, h0⟩ | ⟨g, cap, cur, rfl, hg, hb, hc, hm, hcs, ht⟩
  · have : zs = [] := List.eq_nil_of_length_eq_zero h0
    subst this; refine (Tryz.slices_Sort_int_none none 0 w).mono ?_
    rintro e w' ⟨rfl, rfl⟩; exact ⟨rfl, by simpa using World.ownsRow_nil w' base 3 1, ⟨rfl, rfl, rfl, Nat.le_refl _, fun _ _ _ => rfl⟩⟩
  · have hlt : g < w.heap.size := (Array.getElem?_eq_some_iff.1 hb).1
    refine (Tryz.slices_Sort_int g 0 cap zs w (holds_of_blockI hb (by simpa using ht)) hlt (by omega)).mono ?_
    rintro e w' ⟨rfl, n, os, rfl⟩; exact ⟨rfl, ownsRow_sortedI (by simp) hg hb hc hm hcs, grownBy_sortedI _⟩

theorem ownsRow_slice {w : World} {B : Nat} {e : TypeId} {k : Nat} {v : Value} {n : Nat} {xs : List Value} (h : w.ownsRow B e k v n xs) : ∃ p m c, v = .slice p m c := by
  rcases h.2 with ⟨rfl, _⟩ | ⟨g, cap, cur, rfl, _⟩
  · exact ⟨_, _, _, rfl⟩
  · exact ⟨_, _, _, rfl⟩

theorem serAt_own {β : Type} (b : Nat) (s : Tt.Ser) (v v' : Value) : Own (fun (_ : β) W => SerAt b s v v' W) := fun _ A B row hs hg hr =>
  (hg.block b hs.lt (fun e => by
    obtain ⟨o, ho, hc⟩ := hr b e.symm
    rw [show A.heap[b]? = _ from hs] at ho
    cases ho; cases hc)).trans hs

theorem kp_append {W w4 : World} {b B1 : Nat} {s : Tt.Ser} {u u' v v' : Value} {base n : Nat} {xs : List Value} {tmp : Obj} (hS : SerAt b s u u' W) (hrow : W.ownsRow base 3 1 v n xs) (hgrow : (W.alloc tmp).grownBy w4 v.ownBlock) (hne : b ≠ B1) : Kp0 b W (w4.setCell ⟨B1, 0, none⟩ v') := by
  show (w4.setCell ⟨B1, 0, none⟩ v').heap[b]? = W.heap[b]?
  rw [Below.heap_setCell _ _ _ _ hne, hgrow.block b (by have := hS.lt; simp; omega) ?_, Lib.alloc_old W _ b hS.lt]
  intro e; rcases hrow.2 with ⟨rfl, _⟩ | ⟨g, cap, cur, rfl, _, hgb, _⟩
  · cases e
  · simp only [Value.ownBlock, Option.some.injEq] at e
    subst e; have := (show W.heap[b]? = _ from hS).symm.trans hgb
    simp at this

theorem def_row {W : World} {D : Nat} {v : Value} {base n : Nat} {xs : List Value} {ds : Option (List Deferred)} (hrow : W.ownsRow base 3 1 v n xs) (hK : W.heap[D]? = some (.deferred ds)) : some D ≠ v.ownBlock := by
  intro e; rcases hrow.2 with ⟨rfl, _⟩ | ⟨g, cap, cur, rfl, _, hgb, _⟩
  · cases e
  · simp only [Value.ownBlock, Option.some.injEq] at e
    subst e; rw [hK] at hgb; cases hgb

/-- What the loop has gathered when some regular days have come. -/
def gath (s : Tt.Ser) (pre : List Int) : List Int := s.xt ++ pre.filter fun d => !decide (d ∈ s.ex)
theorem gath_snoc (s : Tt.Ser) (pre : List Int) (d : Int) : gath s (pre ++ [d]) = gath s pre ++ (if (!decide (d ∈ s.ex)) = true then [d] else []) := by
  unfold gath; rw [filter_snoc, List.append_assoc]
theorem gath_le (s : Tt.Ser) (pre : List Int) : (gath s pre).length ≤ s.xt.length + pre.length := by
  unfold gath
  rw [List.length_append]
  have := List.length_filter_le (fun d => !decide (d ∈ s.ex)) pre
  omega
theorem gath_all (s : Tt.Ser) : gath s (regTo s (s.last - s.first + 1).toNat) = s.xt ++ (Tt.span s).filter fun d => Tt.regB s d && !decide (d ∈ s.ex) := by
  unfold gath regTo Tt.span
  rw [List.filter_filter]
  congr 2
  funext d
  exact Bool.and_comm _ _

attribute [local go_sem] Oper.semAt_some

set_option maxHeartbeats 8000000 in
set_option maxRecDepth 100000 in
theorem days74_ok (s : Tt.Ser) (B : Nat) (w : World) (hv : Tt.serV s = 0) (ao ao' : Option Addr) (c c' : Nat) (hB : B ≤ w.heap.size) (hI : Ints B w ao s.ex) (hI' : Ints B w ao' s.xt) :
    Calls Tryz.prog 74 #[serVal s (.slice ao s.ex.length c) (.slice ao' s.xt.length c')] w fun e w' => ∃ v, e = .returned v ∧ w'.ownsRow w.heap.size 3 1 v (Tt.serDays s).length ((Tt.serDays s).map (Value.int .i64)) ∧ Below w.heap.size w w' := by
  obtain ⟨i0, hi, hz0, hz1, hz2⟩ := info_parts infoInt
  obtain ⟨hh, _, _⟩ := (Tt.serV_zero s).1 hv
  have hn := hh.n; have S0 : SerAt w.heap.size s (.slice ao s.ex.length c) (.slice ao' s.xt.length c') (w.alloc (.cells #[.int .i64 s.first, .int .i64 s.last, .int .i64 s.every, .int .i64 s.wd, .slice ao s.ex.length c, .slice ao' s.xt.length c'] 80)) := heap_alloc_new w _
  have HS0 := Lib.hid S0; have HV := Lib.hid (valid145_any s B (w.alloc (.cells #[.int .i64 s.first, .int .i64 s.last, .int .i64 s.every, .int .i64 s.wd, .slice ao s.ex.length c, .slice ao' s.xt.length c'] 80)) (by omega) (by omega) ao ao' c c' (by simp; omega) (hI.below ((below_box w _).mono hB)) (hI'.below ((below_box w _).mono hB)))
  have hBB := hB; have HI := Lib.hid hI; have HI' := Lib.hid hI'; have HH := Lib.hid hh; have HVV := Lib.hid hv; clear hI hI' S0 hh hv; unfold serVal at HV ⊢
  refine (callsIn_wide (n := 5)).1 ?_
  refine callsIn_of_wp_marks Tryz.func74 rfl trivial ?_ rfl
  simp only [Tryz.ntmps74, List.size_toArray, List.length_cons, List.length_nil, Nat.reduceAdd, Nat.reduceSub, Array.replicate_succ, Array.replicate_zero, List.push_toArray, List.append_toArray, List.nil_append, List.cons_append]
  gi_wp2_with fail
  refine ⟨trivial, ?_⟩
  refine (callsIn_wide.2 HV.out).mono ?_
  rintro e w1 ⟨rfl, hb1⟩; rw [HVV.out]
  have hbe1 := below_then (below_box w _) hb1
  have HA1 := Lib.hid (HS0.out.block (hb1.block _ HS0.out.lt))
  clear HV hb1; obtain ⟨e0, e1, e2, e3, e4, e5⟩ := HA1.out.cells
  have hsz1 := HA1.out.lt; gi_wp2_with fail
  refine ⟨trivial, ?_⟩
  refine (callsIn_wide.2 (clone146 B ao' c' s.xt w1 (HI'.out.below (hbe1.mono hB)) (by omega))).mono ?_
  rintro e w2 ⟨x, rfl, hown2, hb2⟩; obtain ⟨q1, q2, q3, hx⟩ := ownsRow_slice hown2
  subst hx; have hbe2 := below_then hbe1 hb2; have HA2 := Lib.hid (HA1.out.block (hb2.block _ hsz1))
  have hs12 := hb2.size; clear e0 e1 e2 e3 e4 e5; obtain ⟨e0, e1, e2, e3, e4, e5⟩ := HA2.out.cells
  have hsz2 := HA2.out.lt; gi_wp2_with fail
  refine ⟨trivial, ?_⟩
  refine (callsIn_wide.2 (regulars147 s ao ao' s.ex.length s.xt.length c c' _)).mono ?_
  rintro e w3 ⟨rfl, hw⟩; rw [hw]
  clear hw w3; gi_wp2_with fail
  obtain ⟨W0, hW0⟩ : ∃ W0, W0 = ((w2.alloc (.cells #[.slice q1 q2 q3] 27)).alloc (.cells #[.int .i64 s.first, .int .i64 s.last, .int .i64 s.every, .int .i64 s.wd, .slice ao s.ex.length c, .slice ao' s.xt.length c'] 80)) := ⟨_, rfl⟩
  obtain ⟨B1, hB1⟩ : ∃ B1, B1 = w2.heap.size := ⟨_, rfl⟩
  have hzq : W0.heap.size = B1 + 2 := by rw [hW0, hB1]; simp
  have HZ := Lib.hid hzq; have bO : Boxed W0 B1 27 (.slice q1 q2 q3) := by rw [hW0, hB1]; exact (Boxed.new w2 27 _).alloc _
  have S2 : SerAt (B1 + 1) s (.slice ao s.ex.length c) (.slice ao' s.xt.length c') W0 := by
    rw [hW0, hB1]
    have := heap_alloc_new (w2.alloc (.cells #[.slice q1 q2 q3] 27)) (.cells #[.int .i64 s.first, .int .i64 s.last, .int .i64 s.every, .int .i64 s.wd, .slice ao s.ex.length c, .slice ao' s.xt.length c'] 80)
    simpa [SerAt] using this
  have hbw : Below w1.heap.size w2 W0 := by rw [hW0]; exact ((Below.refl _ w2).alloc (by omega) _).alloc (by simp; omega) _
  have hown0 : W0.ownsRow w1.heap.size 3 1 (.slice q1 q2 q3) s.xt.length (s.xt.map (Value.int .i64)) := by rw [hW0]; exact (hown2.alloc _).alloc _
  have hbw1 := hb2.trans hbw; have hB1w : w1.heap.size ≤ B1 := by rw [hB1]; exact hs12
  rw [← hW0, ← hB1]; clear hW0 hB1 e0 e1 e2 e3 e4 e5 HA2 hown2 hbw hzq hb2; have hzw : B1 + 2 ≤ W0.heap.size := by rw [HZ.out]; exact Nat.le_refl _
  refine wpIn_rangeFunc_ownG rfl (by decide) (gf := 221) (lb := #[.pointer (some ⟨B1 + 1, 0, none⟩)]) rfl trivial (enters_of Tryz.func221 (by kernel_rfl) rfl)
    (encs := fun x : Int => #[Value.int .i64 x]) (Kp := Kp0 (B1 + 1)) (S := fun ys => ys = regTo s (s.last - s.first + 1).toNat) (Sp := fun _ => True) (N := 141) (w0 := W0)
    (fun l J Jx W hW hJ hJx hY h0 => regulars221 4 (by decide) l (B1 + 1) s HH.out ao ao' _ _ c c' J Jx W hJ hY (S2.block (hW.block _ S2.lt)) h0)
    (fun h k => Eq.trans k h) (fun W l o o' hl h _ _ => ?kb) (Below.refl _ _) (fun _ => rfl)
    (fun pre W => (∃ v, Boxed W B1 27 v ∧ W.ownsRow w1.heap.size 3 1 v (gath s pre).length ((gath s pre).map (Value.int .i64)) ∧ True) ∧ SerAt (B1 + 1) s (.slice ao s.ex.length c) (.slice ao' s.xt.length c') W ∧ Below w1.heap.size w1 W)
    (fun _ _ _ => False)
    (OwnFrom.and (Own.from (holdsRow_own w1.heap.size B1 27 3 1 (fun pre => (gath s pre).length) (fun pre => (gath s pre).map (Value.int .i64)) (fun _ _ => True)) _) (OwnFrom.and (Own.from (serAt_own _ _ _ _) _) (ownFrom_below (Nat.le_refl _) (by omega))))
    (fun _ _ _ _ _ hs _ _ => hs)
    ⟨⟨_, bO, by simpa [gath] using hown0, trivial⟩, S2, ?be0⟩
    (fun x => { tmps := #[.agg #[.int .i64 s.first, .int .i64 s.last, .int .i64 s.every, .int .i64 s.wd, .slice ao s.ex.length c, .slice ao' s.xt.length c'], .pointer (some ⟨w.heap.size, 0, none⟩), .slice none 0 0, .pointer (some ⟨B1, 0, none⟩), .int .i64 x, .agg #[.int .i64 s.first, .int .i64 s.last, .int .i64 s.every, .int .i64 s.wd, .slice ao s.ex.length c, .slice ao' s.xt.length c'], .int .i64 0, .bool false, .pointer (some ⟨w.heap.size, 5, none⟩), .slice ao' s.xt.length c', .slice q1 q2 q3, .agg #[.int .i64 s.first, .int .i64 s.last, .int .i64 s.every, .int .i64 s.wd, .slice ao s.ex.length c, .slice ao' s.xt.length c'], .func (.func 221) #[] #[.pointer (some ⟨B1 + 1, 0, none⟩)], .int .i64 x, undef, undef, undef, undef, undef, undef, undef, undef, undef, undef, undef, undef], defers := [] }) ?assign ?body ?done ?stop
  case kb =>
    exact (grownBy_putObj' W l o').block (B1 + 1) (by have := (Array.getElem?_eq_some_iff.1 h).1; omega) (by simp; omega)
  case be0 => exact hbw1
  case assign =>
    intro l x W K hK; gi_wp2
    exact hK
  case body =>
    rintro l pre x W ⟨⟨v, hv, hrow, _⟩, S2W, hB⟩ hlt
    have S2H := Lib.hid S2W; clear S2W; have hc := hv.cell; have HAW := Lib.hid (HA1.out.block (hB.block _ hsz1))
    obtain ⟨e0, e1, e2, e3, e4, e5⟩ := HAW.out.cells
    have hpl := gath_le s pre; have HG := Lib.hid (gath_snoc s pre x)
    have hbW := hbe1.trans (hB.mono (by omega))
    have hWs := hB.size; gi_wp2_with fail
    refine ⟨trivial, ?_⟩
    refine (CallsIn.inRound l (callsIn_wide.2 (contains148 B ao c s.ex x W (HI.out.below (hbW.mono hBB)) (by omega)))).mono ?_
    rintro e w3 ⟨rfl, hw⟩; rw [hw]
    clear hw w3; cases hd : decide (x ∈ s.ex)
    · have HG1 := Lib.hid (show gath s (pre ++ [x]) = gath s pre ++ [x] by rw [HG.out, hd]; rfl)
      clear hd; gi_wp2_with (gi_at_builtin; refine wpListIn_append_own _ rfl _ _ 27 rfl w1.heap.size 3 i0 (.int .i64 0) 1 8 Tryz.underlying27 hi hz0 hz1 hz2 rfl (by decide) _ _ _ rfl (hrow.alloc _) ⟨W.heap.size, 0, none⟩ 1 1 [.int .i64 x] rfl rfl (cell_one_new _ _ _) (by simp [Value.oneCell']) (by unfold maxLen; omega) (by omega) (by simp; omega) ?_)
      intro v' w4 hown' hgrow _; obtain ⟨g', cap', rfl⟩ := ownsRow_succ hown'
      obtain ⟨hv1, hv2, hr2, hk2, hb2⟩ := hv.appended (by decide) hrow hWs hB1w hown' hgrow
      have hc1 := hv1.cell; have hf1 := hv1.frozen; gi_wp2_with fail
      exact ⟨hk2.from _, kp_append S2H.out hrow hgrow (by omega), ⟨_, hv2, by rw [HG1.out]; simpa using hr2, trivial⟩, SerAt.block S2H.out (kp_append S2H.out hrow hgrow (by omega)), hB.trans hb2⟩
    · have HG1 := Lib.hid (show gath s (pre ++ [x]) = gath s pre by rw [HG.out, hd]; simp)
      clear hd; gi_wp2_with fail
      exact ⟨KeepsFrom.refl _ _, rfl, ⟨v, hv, by rw [HG1.out]; exact hrow, trivial⟩, S2H.out, hB⟩
  case done =>
    rintro D ys W hD hys ⟨⟨v, hv, hrow, _⟩, _, hB⟩ hK
    have hc := hv.cell; have hgl := gath_le s ys; have hyl : ys.length ≤ 141 := by rw [hys]; have := regTo_le s (s.last - s.first + 1).toNat; have := HH.out.lf; omega
    gi_wp2_with fail
    refine ⟨trivial, ?_⟩
    refine (callsIn_wide.2 (sort149 w1.heap.size v (gath s ys) W hrow (by omega))).mono ?_
    rintro e w3 ⟨rfl, hrow3, hg3⟩; have hv3 := hv.kept hg3 (hv.not_row (by decide) hrow)
    have hc3 := hv3.cell; have hK3 : w3.heap[D]? = some (.deferred (some [])) := (hg3.block D (Array.getElem?_eq_some_iff.1 hK).1 (def_row hrow hK)).trans hK
    have hB3 : Below w1.heap.size w1 w3 := hB.grown hg3 hB.size (fun k e => (hrow.lt k e).1)
    have HS := Lib.hid (show (gath s ys).mergeSort (fun x y => decide (x ≤ y)) = Tt.serDays s from by
      refine Tt.serDays_of s HVV.out _ ?_ ?_
      · have := List.pairwise_mergeSort (le := fun x y : Int => decide (x ≤ y)) (fun a b c h1 h2 => by simp at *; omega) (fun a b => by simp; omega) (gath s ys)
        exact this.imp (fun h => by simpa using h)
      · rw [← gath_all, ← hys]; exact List.mergeSort_perm _ _)
    rw [HS.out] at hrow3
    have HLEN := Lib.hid (show (gath s ys).length = (Tt.serDays s).length by rw [← HS.out]; simp)
    rw [HLEN.out] at hrow3
    clear hc; gi_wp2_with fail
    refine ⟨by simp, .inl ⟨_, _, rfl, run_takeDeferred hK3, ?_⟩⟩
    exact ⟨_, results_tmp rfl _ _ _, v, rfl, ownsRow_mono (ownsRow_putObj hrow3 _ hK3 rfl) (by omega), hbe1.trans ((hB3.mono (by omega)).trans (belowK_b (w := w) (Nat.le_refl _) w3 D _ _ (by omega) hK3 rfl rfl))⟩
  case stop =>
    rintro D c pre W _ _ h _
    exact h.elim

set_option maxHeartbeats 4000000 in
set_option maxRecDepth 100000 in
theorem days74 (s : Tt.Ser) (B : Nat) (w : World) (hn : s.ex.length ≤ 4611686018427387903) (hn2 : s.xt.length ≤ 4611686018427387903) (ao ao' : Option Addr) (c c' : Nat) (hB : B ≤ w.heap.size) (hI : Ints B w ao s.ex) (hI' : Ints B w ao' s.xt) :
    Calls Tryz.prog 74 #[serVal s (.slice ao s.ex.length c) (.slice ao' s.xt.length c')] w fun e w' => ∃ v, e = .returned v ∧ w'.ownsRow w.heap.size 3 1 v (Tt.serDays s).length ((Tt.serDays s).map (Value.int .i64)) ∧ Below w.heap.size w w' := by
  by_cases hv : Tt.serV s = 0
  · exact days74_ok s B w hv ao ao' c c' hB hI hI'
  · have HV := Lib.hid (valid145_any s B (w.alloc (.cells #[.int .i64 s.first, .int .i64 s.last, .int .i64 s.every, .int .i64 s.wd, .slice ao s.ex.length c, .slice ao' s.xt.length c'] 80)) hn hn2 ao ao' c c' (by simp; omega) (hI.below ((below_box w _).mono hB)) (hI'.below ((below_box w _).mono hB)))
    have HVV := Lib.hid (show (Tt.serV s != 0) = true by simp [hv])
    have HD := Lib.hid (show Tt.serDays s = [] by unfold Tt.serDays; rw [if_pos hv])
    clear hv hI hI'; unfold serVal at HV ⊢
    go_enter Tryz.func74, Tryz.ntmps74
    go_wp2_with fail
    refine HV.out.mono ?_
    rintro e w0 ⟨rfl, hb0⟩; have hbe0 := below_then (below_box w _) hb0
    have hvv := HVV.out; clear HV hb0; go_wp2_with fail
    refine bodyPost_ret (v := .slice none 0 0) (by simp [results, Tryz.results74, go_sem]) rfl ?_
    refine ⟨_, rfl, ?_, hbe0⟩
    rw [HD.out]
    exact World.ownsRow_nil _ _ _ _
end Go.Proofs.YtageielcdebjlaaGreatDoor
