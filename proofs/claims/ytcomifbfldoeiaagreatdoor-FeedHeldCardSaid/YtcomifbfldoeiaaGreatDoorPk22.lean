/- Plain facts on zones: which are valid, the instants at which clocks show a local time, and what a local time means. No program in sight. Condition: none. Sessions in rows of one's own. timetablemore.put: a session laid into a list: its contract. -/
import Derived.Test.YtcomifbfldoeiaaGreatDoorPk1
import Derived.Test.YtcomifbfldoeiaaGreatDoorGenT2
import Derived.Test.YtcomifbfldoeiaaGreatDoorPk10
import Derived.StillTailTactics
import Derived.Test.YtcomifbfldoeiaaGreatDoorDaysAll
import Derived.Test.YtcomifbfldoeiaaGreatDoorPk8
import Derived.BigQuiet
namespace Tt

def nearB (o : Int) : Bool := decide (-840 ≤ o) && decide (o ≤ 840)
def instB (t : Int) : Bool := decide (0 ≤ t) && decide (t < 52596000)
theorem nearB_iff (o : Int) : nearB o = true ↔ -840 ≤ o ∧ o ≤ 840 := by unfold nearB; simp
theorem instB_iff (t : Int) : instB t = true ↔ 0 ≤ t ∧ t < 52596000 := by unfold instB; simp
def lateA : Option Int → Int → Bool
  | none, _ => false
  | some q, a => decide (a < q + 2880)

/-- The first fault of the shifts, behind an instant and an offset. -/
def shV : Option Int → Int → List (Int × Int) → Int
  | _, _, [] => 0
  | p, off, x :: r => if (instB x.1 && nearB x.2) = false then 3 else if lateA p x.1 = true then 63 else if x.2 = off ∨ off + 180 < x.2 ∨ x.2 < off - 180 then 1 else shV (some x.1) x.2 r

/-- Shifts that ascend from m on, each within the bounds. -/
def Asc : Int → List (Int × Int) → Prop
  | _, [] => True
  | m, x :: r => m ≤ x.1 ∧ 0 ≤ x.1 ∧ x.1 < 52596000 ∧ -840 ≤ x.2 ∧ x.2 ≤ 840 ∧ Asc (x.1 + 2880) r

theorem asc_of : ∀ (sh : List (Int × Int)) (p : Option Int) (off m : Int), shV p off sh = 0 → (∀ q, p = some q → m ≤ q + 2880) → (p = none → m ≤ 0) → Asc m sh
  | [], _, _, _, _, _, _ => trivial
  | x :: r, p, off, m, h, h1, h2 => by
    rw [shV] at h
    split at h
    · cases h
    · rename_i g1
      simp only [Bool.not_eq_false, Bool.and_eq_true, instB_iff, nearB_iff] at g1
      split at h
      · cases h
      · rename_i g2
        split at h
        · cases h
        · refine ⟨?_, g1.1.1, g1.1.2, g1.2.1, g1.2.2, asc_of r (some x.1) x.2 _ h (fun q hq => by cases hq; omega) (fun e => by cases e)⟩
          cases p with
          | none => have := h2 rfl; omega
          | some q => have := h1 q rfl; simp [lateA] at g2; omega

end Tt
namespace Go.Proofs.YtcomifbfldoeiaaGreatDoor
open Go.RowKit

def sL (xs : List Ses) : List Value := xs.flatMap fun s => (sesCells s).toList
theorem sL_cons (s : Ses) (r : List Ses) : sL (s :: r) = (sesCells s).toList ++ sL r := rfl
theorem sL_app (a b : List Ses) : sL (a ++ b) = sL a ++ sL b := by unfold sL; simp
theorem sL_one (s : Ses) : sL [s] = (sesCells s).toList := by unfold sL; simp
theorem sL_get : ∀ (xs : List Ses) (j i : Nat) (s : Ses), xs[j]? = some s → i < 6 → (sL xs)[j * 6 + i]? = (sesCells s).toList[i]?
  | [], _, _, _, h, _ => by simp at h
  | t :: r, 0, i, s, h, hi => by
    simp at h; subst h
    rw [sL_cons, show 0 * 6 + i = i by omega, List.getElem?_append_left (show i < 6 from hi)]
  | t :: r, j + 1, i, s, h, hi => by
    rw [sL_cons, List.getElem?_append_right (show 6 ≤ (j + 1) * 6 + i by omega)]
    have : (j + 1) * 6 + i - (sesCells t).toList.length = j * 6 + i := by show _ - 6 = _; omega
    rw [this]
    exact sL_get r j i s (by simpa using h) hi
theorem sL_cell1 (s : Ses) : ∀ u ∈ (sesCells s).toList, u.oneCell' = true := by
  intro u hu; simp [sesCells] at hu
  rcases hu with rfl | rfl | rfl | rfl | rfl | rfl <;> rfl
theorem sL_cells1 (xs : List Ses) : ∀ u ∈ sL xs, u.oneCell' = true := by
  intro u hu; obtain ⟨s, -, h2⟩ := List.mem_flatMap.1 hu
  exact sL_cell1 s u h2
/-- Sessions in a row that lies in a block from lo on. -/
def RowS (lo : Nat) (w : World) (v : Value) (xs : List Ses) : Prop := w.ownsRow lo 110 6 v xs.length (sL xs)
theorem RowS.nil (lo : Nat) (w : World) : RowS lo w (.slice none 0 0) [] := World.ownsRow_nil _ _ _ _
theorem RowS.slice {lo : Nat} {w : World} {v : Value} {xs : List Ses} (h : RowS lo w v xs) : ∃ ao c, v = .slice ao xs.length c := ownsRow_len h
theorem RowS.form {lo : Nat} {w : World} {v : Value} {xs : List Ses} (h : RowS lo w v xs) (hp : 0 < xs.length) : ∃ g c, v = .slice (some ⟨g, 0, none⟩) xs.length c ∧ lo ≤ g := by
  rcases h.2 with ⟨_, h0⟩ | ⟨g, cap, cur, hv, hlo, _⟩
  · omega
  · exact ⟨g, cap, hv, hlo⟩
theorem RowS.snoc {lo : Nat} {w : World} {v : Value} {xs : List Ses} {s : Ses} (h : w.ownsRow lo 110 6 v (xs.length + 1) (sL xs ++ (sesCells s).toList)) : RowS lo w v (xs ++ [s]) := by
  unfold RowS
  rw [List.length_append, sL_app, sL_one]
  exact h
theorem RowS.cell {w : World} {lo n c g : Nat} {xs : List Ses} (h : RowS lo w (.slice (some ⟨g, 0, none⟩) n c) xs) (k o : Nat) (s : Ses) (u : Value) (hs : xs[k]? = some s) (ho : o < 6) (hu : (sesCells s).toList[o]? = some u) : w.cell? ⟨g, k * 6 + o, none⟩ = some u := by
  obtain ⟨ao, c', hv⟩ := h.slice
  have hn : n = xs.length := by injection hv
  subst hn; have := World.ownsRow.cells h (g := g) rfl (k * 6 + o) u (by rw [sL_get xs k o s hs ho]; exact hu)
  rw [Addr.add_lit] at this
  simpa using this
theorem RowS.mono {lo lo' : Nat} {w : World} {v : Value} {xs : List Ses} (h : RowS lo w v xs) (hl : lo' ≤ lo) : RowS lo' w v xs := ownsRow_mono h hl
theorem infoSes : (Tryz.prog.info? 110).map (fun i => (i.zero, i.size, i.bytes)) = some (some (.agg #[.string ⟨#[]⟩, .int .i64 0, .int .i64 0, .int .i64 0, .int .i64 0, .string ⟨#[]⟩]), 6, 64) := by kernel_rfl
theorem infoSl : (Tryz.prog.info? 106).map (fun i => (i.zero, i.size, i.bytes)) = some (some (.slice none 0 0), 1, 24) := by kernel_rfl
end Go.Proofs.YtcomifbfldoeiaaGreatDoor
namespace Go.Proofs.YtcomifbfldoeiaaGreatDoor
open Go.RowKit

/-- A session laid into a list, in the place of that of its class, or that one taken away. -/
def putG (s : Ses) : Bool → List Ses → List Ses
  | dn, [] => if dn = true then [] else [s]
  | dn, x :: r => (if (dn || Op.bytesLess x.cls.toList s.cls.toList) = true then [] else [s]) ++ ((if (x.cls.toList == s.cls.toList) = true then [] else [x]) ++ putG s (dn || !Op.bytesLess x.cls.toList s.cls.toList) r)
theorem putG_next {s t : Ses} {xs : List Ses} {k : Nat} {dn lb eb : Bool} (h : xs[k]? = some t) (hl : Op.bytesLess t.cls.toList s.cls.toList = lb) (he : (t.cls.toList == s.cls.toList) = eb) : putG s dn (xs.drop k) = (if (dn || lb) = true then [] else [s]) ++ ((if eb = true then [] else [t]) ++ putG s (dn || !lb) (xs.drop (k + 1))) := by
  obtain ⟨h1, h2⟩ := List.getElem?_eq_some_iff.1 h
  rw [List.drop_eq_getElem_cons h1, h2, putG, hl, he]
theorem putG_end (s : Ses) (dn : Bool) (xs : List Ses) : putG s dn (xs.drop xs.length) = if dn = true then [] else [s] := by rw [List.drop_length, putG]

set_option maxHeartbeats 8000000 in
set_option maxRecDepth 100000 in
theorem put123v (lo : Nat) (xs : List Ses) (ao : Option Addr) (c : Nat) (s : Ses) (aw : Bool) (w : World) (hX : RowS lo w (.slice ao xs.length c) xs) (hl : xs.length ≤ 100000) : Calls Tryz.prog 77 #[.slice ao xs.length c, sesVal s, .bool aw] w fun e w' => ∃ u : Value, e = .returned u ∧ RowS w.heap.size w' u (putG s aw xs) ∧ (putG s aw xs).length ≤ xs.length + 1 ∧ Below w.heap.size w w' := by
  obtain ⟨i0, hii, hz0, hz1, hz2⟩ := info_parts infoSes
  obtain ⟨P, hP⟩ : ∃ g, g = w.heap.size := ⟨_, rfl⟩
  obtain ⟨w0, hw0⟩ : ∃ X, X = w.alloc (.cells #[.string s.cls, .int .i64 s.tim.weeks, .int .i64 s.tim.day, .int .i64 s.tim.start, .int .i64 s.tim.len, .string s.room] 110) := ⟨_, rfl⟩
  have HB0 := Lib.hid (show Below w.heap.size w w0 from by rw [hw0]; exact below_box w _)
  have HP0 := Lib.hid (show Blk P #[.string s.cls, .int .i64 s.tim.weeks, .int .i64 s.tim.day, .int .i64 s.tim.start, .int .i64 s.tim.len, .string s.room] 110 w0 from by rw [hw0, hP]; exact Blk.new w _ _)
  have HPW := Lib.hid (show w.heap.size ≤ P by omega)
  have hPlt : P < w0.heap.size := HP0.out.lt
  have hws := HB0.out.size; have HX := Lib.hid hX; obtain ⟨n, hn⟩ : ∃ n, n = xs.length := ⟨_, rfl⟩
  rw [← hn] at HX hl ⊢
  have HN := Lib.hid hn; clear hX hn; unfold sesVal sesCells
  go_enter Tryz.func77, Tryz.ntmps77
  go_upto_region 1 with (fail)
  rw [← hw0, ← hP]; clear hw0 hP; go_wp2_with fail
  go_loopw [7, 8, 9] (fun uv dv iv wr => ∃ (k : Nat) (dn : Bool) (ys : List Ses), dv = .bool dn ∧ iv = .int .i64 k ∧ k ≤ n ∧ ys.length ≤ k + (if dn = true then 1 else 0) ∧ Hid (ys ++ putG s dn (xs.drop k) = putG s aw xs) ∧ Hid (RowS w0.heap.size wr uv ys) ∧ Hid (Below w0.heap.size w0 wr)) (fun _ _ iv _ => n - (intOf iv).toNat)
  case atStart => exact ⟨0, aw, [], rfl, rfl, Nat.zero_le _, Nat.zero_le _, Lib.hid rfl, Lib.hid (RowS.nil _ _), Lib.hid (Below.refl _ _)⟩
  case round =>
    obtain ⟨k, dn, ys, rfl, rfl, hk, hyl, HG, HY, HB⟩ := hrel; have p0 : wr.cell? ⟨P, 0, none⟩ = some (.string s.cls) := (HP0.out.below HB.out hPlt).cell 0
    have p1 : wr.cell? ⟨P, 1, none⟩ = some (.int .i64 s.tim.weeks) := (HP0.out.below HB.out hPlt).cell 1
    have p2 : wr.cell? ⟨P, 2, none⟩ = some (.int .i64 s.tim.day) := (HP0.out.below HB.out hPlt).cell 2
    have p3 : wr.cell? ⟨P, 3, none⟩ = some (.int .i64 s.tim.start) := (HP0.out.below HB.out hPlt).cell 3
    have p4 : wr.cell? ⟨P, 4, none⟩ = some (.int .i64 s.tim.len) := (HP0.out.below HB.out hPlt).cell 4
    have p5 : wr.cell? ⟨P, 5, none⟩ = some (.string s.room) := (HP0.out.below HB.out hPlt).cell 5
    by_cases hlt : k < n
    rotate_left
    · have hki : ¬ (k : Int) < (n : Int) := by omega
      cases dn with
      | true =>
        have hyl : ys.length ≤ n + 1 := by have : ys.length ≤ k + 1 := hyl; omega
        have HE := Lib.hid (show ys = putG s aw xs from by have h := HG.out; rw [show k = xs.length by have := HN.out; omega, putG_end] at h; simpa using h)
        have HYE := Lib.hid (show RowS w0.heap.size _ _ (putG s aw xs) from by rw [← HE.out]; exact HY.out)
        have HLE := Lib.hid (show (putG s aw xs).length ≤ n + 1 from by rw [← HE.out]; first | omega | (rw [List.length_append]; simp; omega))
        go_wp2_with fail
        go_ret; first | exact ⟨_, rfl, RowS.mono HYE.out hws, HLE.out, HB0.out.trans (HB.out.mono hws)⟩ | exact ⟨RowS.mono HYE.out hws, HLE.out, HB0.out.trans (HB.out.mono hws)⟩
      | false =>
        have hyl : ys.length ≤ n := by have : ys.length ≤ k := hyl; omega
        have HYL := Lib.hid hyl; obtain ⟨pu, cu, hu⟩ := HY.out.slice
        subst hu; go_wp2_with (at_builtin; refine wpList_append_own_at _ rfl (.tmp 50) (.tmp 52) 106 rfl w0.heap.size 110 i0 _ 6 64 Tryz.underlying106 hii hz0 hz1 hz2 rfl (by decide) _ _ _ rfl (World.ownsRow.alloc HY.out _) ⟨wr.heap.size, 0, none⟩ 1 1 (sesCells s).toList rfl rfl (blk_cells (Blk.new wr (sesCells s) 110)) (sL_cell1 s) (by unfold maxLen; omega) (by omega) (by have := HB.out.size; simp; omega) ?_)
        intro v8 x8 hown8 hgrow _ hat; have HB8 := Lib.hid (below_grownBy (HB.out.trans ((below_box wr _).mono HB.out.size)) (World.ownsRow.alloc HY.out _) (Nat.le_refl _) (by have := HB.out.size; simp; omega) hgrow)
        have HX8 := Lib.hid (show RowS w0.heap.size x8 v8 (ys ++ [s]) from RowS.snoc hown8)
        clear hown8 hgrow hat; clear p0 p1 p2 p3 p4 p5; have HE := Lib.hid (show ys ++ [s] = putG s aw xs from by have h := HG.out; rw [show k = xs.length by have := HN.out; omega, putG_end] at h; simpa using h)
        have HYE := Lib.hid (show RowS w0.heap.size _ _ (putG s aw xs) from by rw [← HE.out]; exact HX8.out)
        have HLE := Lib.hid (show (putG s aw xs).length ≤ n + 1 from by rw [← HE.out]; first | omega | (rw [List.length_append]; simp; omega))
        go_wp2_with fail
        go_ret; first | exact ⟨_, rfl, RowS.mono HYE.out hws, HLE.out, HB0.out.trans (HB8.out.mono hws)⟩ | exact ⟨RowS.mono HYE.out hws, HLE.out, HB0.out.trans (HB8.out.mono hws)⟩
    have hki : (k : Int) < (n : Int) := by omega
    have hk0 : (0 : Int) ≤ (k : Int) := by omega
    obtain ⟨t, ht⟩ : ∃ t, xs[k]? = some t := ⟨_, List.getElem?_eq_getElem (by have := HN.out; omega)⟩
    have HXn := Lib.hid (show RowS lo w (.slice ao xs.length c) xs from by have h := HX.out; rw [HN.out] at h; exact h)
    obtain ⟨g, cg, hg, -⟩ := HXn.out.form (by have := HN.out; omega)
    have hao : ao = some ⟨g, 0, none⟩ := by injection hg
    subst hao; have hgw : g < w.heap.size := (World.ownsRow.lt HX.out g rfl).2
    have q0 : wr.cell? ⟨g, k * 6 + 0, none⟩ = some (.string t.cls) := ((HB0.out.trans (HB.out.mono hws)).cell (p := ⟨g, k * 6 + 0, none⟩) hgw).trans (HX.out.cell k 0 t _ ht (by decide) rfl)
    have q1 : wr.cell? ⟨g, k * 6 + 1, none⟩ = some (.int .i64 t.tim.weeks) := ((HB0.out.trans (HB.out.mono hws)).cell (p := ⟨g, k * 6 + 1, none⟩) hgw).trans (HX.out.cell k 1 t _ ht (by decide) rfl)
    have q2 : wr.cell? ⟨g, k * 6 + 2, none⟩ = some (.int .i64 t.tim.day) := ((HB0.out.trans (HB.out.mono hws)).cell (p := ⟨g, k * 6 + 2, none⟩) hgw).trans (HX.out.cell k 2 t _ ht (by decide) rfl)
    have q3 : wr.cell? ⟨g, k * 6 + 3, none⟩ = some (.int .i64 t.tim.start) := ((HB0.out.trans (HB.out.mono hws)).cell (p := ⟨g, k * 6 + 3, none⟩) hgw).trans (HX.out.cell k 3 t _ ht (by decide) rfl)
    have q4 : wr.cell? ⟨g, k * 6 + 4, none⟩ = some (.int .i64 t.tim.len) := ((HB0.out.trans (HB.out.mono hws)).cell (p := ⟨g, k * 6 + 4, none⟩) hgw).trans (HX.out.cell k 4 t _ ht (by decide) rfl)
    have q5 : wr.cell? ⟨g, k * 6 + 5, none⟩ = some (.string t.room) := ((HB0.out.trans (HB.out.mono hws)).cell (p := ⟨g, k * 6 + 5, none⟩) hgw).trans (HX.out.cell k 5 t _ ht (by decide) rfl)
    have q0 : wr.cell? ⟨g, k * 6, none⟩ = some (.string t.cls) := q0
    obtain ⟨lb, hlb⟩ : ∃ b, Op.bytesLess t.cls.toList s.cls.toList = b := ⟨_, rfl⟩
    obtain ⟨eb, heb⟩ : ∃ b, (t.cls.toList == s.cls.toList) = b := ⟨_, rfl⟩
    have HT := Lib.hid ht; clear ht HXn hg; have HLT := Lib.hid hlt; have HLB := Lib.hid hlb; have HEB := Lib.hid heb; cases dn with
    | true =>
      have hyl2 : ys.length ≤ k + 1 := hyl
      clear hyl; have HGx := Lib.hid (show ys ++ ((if eb = true then [] else [t]) ++ putG s true (xs.drop (k + 1))) = putG s aw xs from by have h := HG.out; rw [putG_next HT.out HLB.out HEB.out] at h; simpa using h)
      go_wp2_with fail
      go_quiet (fail)
      obtain ⟨wy, hq⟩ : ∃ X, X = wr.drewN nq := ⟨_, rfl⟩
      have HY_wy := Lib.hid (show RowS w0.heap.size wy _ (ys) from by rw [hq]; exact HY.out)
      have HB_wy := Lib.hid (show Below w0.heap.size w0 wy from by rw [hq]; exact HB.out.trans ⟨rfl, rfl, rfl, Nat.le_refl _, fun k hk => rfl⟩)
      rw [← hq]; clear hq nq; clear p0 p1 p2 p3 p4 p5; clear q0 q1 q2 q3 q4 q5; have p0 : wy.cell? ⟨P, 0, none⟩ = some (.string s.cls) := (HP0.out.below HB_wy.out hPlt).cell 0
      have p1 : wy.cell? ⟨P, 1, none⟩ = some (.int .i64 s.tim.weeks) := (HP0.out.below HB_wy.out hPlt).cell 1
      have p2 : wy.cell? ⟨P, 2, none⟩ = some (.int .i64 s.tim.day) := (HP0.out.below HB_wy.out hPlt).cell 2
      have p3 : wy.cell? ⟨P, 3, none⟩ = some (.int .i64 s.tim.start) := (HP0.out.below HB_wy.out hPlt).cell 3
      have p4 : wy.cell? ⟨P, 4, none⟩ = some (.int .i64 s.tim.len) := (HP0.out.below HB_wy.out hPlt).cell 4
      have p5 : wy.cell? ⟨P, 5, none⟩ = some (.string s.room) := (HP0.out.below HB_wy.out hPlt).cell 5
      have q0 : wy.cell? ⟨g, k * 6 + 0, none⟩ = some (.string t.cls) := ((HB0.out.trans (HB_wy.out.mono hws)).cell (p := ⟨g, k * 6 + 0, none⟩) hgw).trans (HX.out.cell k 0 t _ HT.out (by decide) rfl)
      have q1 : wy.cell? ⟨g, k * 6 + 1, none⟩ = some (.int .i64 t.tim.weeks) := ((HB0.out.trans (HB_wy.out.mono hws)).cell (p := ⟨g, k * 6 + 1, none⟩) hgw).trans (HX.out.cell k 1 t _ HT.out (by decide) rfl)
      have q2 : wy.cell? ⟨g, k * 6 + 2, none⟩ = some (.int .i64 t.tim.day) := ((HB0.out.trans (HB_wy.out.mono hws)).cell (p := ⟨g, k * 6 + 2, none⟩) hgw).trans (HX.out.cell k 2 t _ HT.out (by decide) rfl)
      have q3 : wy.cell? ⟨g, k * 6 + 3, none⟩ = some (.int .i64 t.tim.start) := ((HB0.out.trans (HB_wy.out.mono hws)).cell (p := ⟨g, k * 6 + 3, none⟩) hgw).trans (HX.out.cell k 3 t _ HT.out (by decide) rfl)
      have q4 : wy.cell? ⟨g, k * 6 + 4, none⟩ = some (.int .i64 t.tim.len) := ((HB0.out.trans (HB_wy.out.mono hws)).cell (p := ⟨g, k * 6 + 4, none⟩) hgw).trans (HX.out.cell k 4 t _ HT.out (by decide) rfl)
      have q5 : wy.cell? ⟨g, k * 6 + 5, none⟩ = some (.string t.room) := ((HB0.out.trans (HB_wy.out.mono hws)).cell (p := ⟨g, k * 6 + 5, none⟩) hgw).trans (HX.out.cell k 5 t _ HT.out (by decide) rfl)
      have q0 : wy.cell? ⟨g, k * 6, none⟩ = some (.string t.cls) := q0
      go_wp2_with fail
      go_quiet (fail)
      obtain ⟨wz, hq⟩ : ∃ X, X = wy.drewN nq := ⟨_, rfl⟩
      have HY_wz := Lib.hid (show RowS w0.heap.size wz _ (ys) from by rw [hq]; exact HY_wy.out)
      have HB_wz := Lib.hid (show Below w0.heap.size w0 wz from by rw [hq]; exact HB_wy.out.trans ⟨rfl, rfl, rfl, Nat.le_refl _, fun k hk => rfl⟩)
      rw [← hq]; clear hq nq; clear p0 p1 p2 p3 p4 p5; clear q0 q1 q2 q3 q4 q5; have p0 : wz.cell? ⟨P, 0, none⟩ = some (.string s.cls) := (HP0.out.below HB_wz.out hPlt).cell 0
      have p1 : wz.cell? ⟨P, 1, none⟩ = some (.int .i64 s.tim.weeks) := (HP0.out.below HB_wz.out hPlt).cell 1
      have p2 : wz.cell? ⟨P, 2, none⟩ = some (.int .i64 s.tim.day) := (HP0.out.below HB_wz.out hPlt).cell 2
      have p3 : wz.cell? ⟨P, 3, none⟩ = some (.int .i64 s.tim.start) := (HP0.out.below HB_wz.out hPlt).cell 3
      have p4 : wz.cell? ⟨P, 4, none⟩ = some (.int .i64 s.tim.len) := (HP0.out.below HB_wz.out hPlt).cell 4
      have p5 : wz.cell? ⟨P, 5, none⟩ = some (.string s.room) := (HP0.out.below HB_wz.out hPlt).cell 5
      have q0 : wz.cell? ⟨g, k * 6 + 0, none⟩ = some (.string t.cls) := ((HB0.out.trans (HB_wz.out.mono hws)).cell (p := ⟨g, k * 6 + 0, none⟩) hgw).trans (HX.out.cell k 0 t _ HT.out (by decide) rfl)
      have q1 : wz.cell? ⟨g, k * 6 + 1, none⟩ = some (.int .i64 t.tim.weeks) := ((HB0.out.trans (HB_wz.out.mono hws)).cell (p := ⟨g, k * 6 + 1, none⟩) hgw).trans (HX.out.cell k 1 t _ HT.out (by decide) rfl)
      have q2 : wz.cell? ⟨g, k * 6 + 2, none⟩ = some (.int .i64 t.tim.day) := ((HB0.out.trans (HB_wz.out.mono hws)).cell (p := ⟨g, k * 6 + 2, none⟩) hgw).trans (HX.out.cell k 2 t _ HT.out (by decide) rfl)
      have q3 : wz.cell? ⟨g, k * 6 + 3, none⟩ = some (.int .i64 t.tim.start) := ((HB0.out.trans (HB_wz.out.mono hws)).cell (p := ⟨g, k * 6 + 3, none⟩) hgw).trans (HX.out.cell k 3 t _ HT.out (by decide) rfl)
      have q4 : wz.cell? ⟨g, k * 6 + 4, none⟩ = some (.int .i64 t.tim.len) := ((HB0.out.trans (HB_wz.out.mono hws)).cell (p := ⟨g, k * 6 + 4, none⟩) hgw).trans (HX.out.cell k 4 t _ HT.out (by decide) rfl)
      have q5 : wz.cell? ⟨g, k * 6 + 5, none⟩ = some (.string t.room) := ((HB0.out.trans (HB_wz.out.mono hws)).cell (p := ⟨g, k * 6 + 5, none⟩) hgw).trans (HX.out.cell k 5 t _ HT.out (by decide) rfl)
      have q0 : wz.cell? ⟨g, k * 6, none⟩ = some (.string t.cls) := q0
      cases eb
      · have HYL := Lib.hid hyl2; have HG2 := Lib.hid (show (ys ++ [t]) ++ putG s true (xs.drop (k + 1)) = putG s aw xs from by simpa using HGx.out)
        obtain ⟨pu, cu, hu⟩ := HY_wz.out.slice
        subst hu; go_wp2_with (at_builtin; refine wpList_append_own_at _ rfl (.tmp 41) (.tmp 46) 106 rfl w0.heap.size 110 i0 _ 6 64 Tryz.underlying106 hii hz0 hz1 hz2 rfl (by decide) _ _ _ rfl (World.ownsRow.alloc HY_wz.out _) ⟨wz.heap.size, 0, none⟩ 1 1 (sesCells t).toList rfl rfl (blk_cells (Blk.new wz (sesCells t) 110)) (sL_cell1 t) (by unfold maxLen; omega) (by omega) (by have := HB_wz.out.size; simp; omega) ?_)
        intro v8 x8 hown8 hgrow _ hat; have HB8 := Lib.hid (below_grownBy (HB_wz.out.trans ((below_box wz _).mono HB_wz.out.size)) (World.ownsRow.alloc HY_wz.out _) (Nat.le_refl _) (by have := HB_wz.out.size; simp; omega) hgrow)
        have HX8 := Lib.hid (show RowS w0.heap.size x8 v8 (ys ++ [t]) from RowS.snoc hown8)
        clear hown8 hgrow hat; clear p0 p1 p2 p3 p4 p5; clear q0 q1 q2 q3 q4 q5; go_wp2_with fail
        go_roundw
        case rel => exact ⟨k + 1, true, ys ++ [t], rfl, by go_num, by have := HLT.out; omega, by rw [List.length_append]; simp; have := HYL.out; first | omega | (simp at this; omega), HG2, HX8, HB8⟩
        case measure => simp [intOf]; omega
      · have HYL := Lib.hid hyl2; have HG2 := Lib.hid (show ys ++ putG s true (xs.drop (k + 1)) = putG s aw xs from by simpa using HGx.out)
        go_wp2_with fail
        go_roundw
        case rel => exact ⟨k + 1, true, ys, rfl, by go_num, by have := HLT.out; omega, by have := HYL.out; first | omega | (simp at this ⊢; omega), HG2, HY_wz, HB_wz⟩
        case measure => simp [intOf]; omega
    | false =>
      have hyl2 : ys.length ≤ k := hyl
      clear hyl; cases lb
      rotate_left
      · have HGx := Lib.hid (show ys ++ ((if eb = true then [] else [t]) ++ putG s false (xs.drop (k + 1))) = putG s aw xs from by have h := HG.out; rw [putG_next HT.out HLB.out HEB.out] at h; simpa using h)
        go_wp2_with fail
        go_quiet (fail)
        obtain ⟨wy, hq⟩ : ∃ X, X = wr.drewN nq := ⟨_, rfl⟩
        have HY_wy := Lib.hid (show RowS w0.heap.size wy _ (ys) from by rw [hq]; exact HY.out)
        have HB_wy := Lib.hid (show Below w0.heap.size w0 wy from by rw [hq]; exact HB.out.trans ⟨rfl, rfl, rfl, Nat.le_refl _, fun k hk => rfl⟩)
        rw [← hq]; clear hq nq; clear p0 p1 p2 p3 p4 p5; clear q0 q1 q2 q3 q4 q5; have p0 : wy.cell? ⟨P, 0, none⟩ = some (.string s.cls) := (HP0.out.below HB_wy.out hPlt).cell 0
        have p1 : wy.cell? ⟨P, 1, none⟩ = some (.int .i64 s.tim.weeks) := (HP0.out.below HB_wy.out hPlt).cell 1
        have p2 : wy.cell? ⟨P, 2, none⟩ = some (.int .i64 s.tim.day) := (HP0.out.below HB_wy.out hPlt).cell 2
        have p3 : wy.cell? ⟨P, 3, none⟩ = some (.int .i64 s.tim.start) := (HP0.out.below HB_wy.out hPlt).cell 3
        have p4 : wy.cell? ⟨P, 4, none⟩ = some (.int .i64 s.tim.len) := (HP0.out.below HB_wy.out hPlt).cell 4
        have p5 : wy.cell? ⟨P, 5, none⟩ = some (.string s.room) := (HP0.out.below HB_wy.out hPlt).cell 5
        have q0 : wy.cell? ⟨g, k * 6 + 0, none⟩ = some (.string t.cls) := ((HB0.out.trans (HB_wy.out.mono hws)).cell (p := ⟨g, k * 6 + 0, none⟩) hgw).trans (HX.out.cell k 0 t _ HT.out (by decide) rfl)
        have q1 : wy.cell? ⟨g, k * 6 + 1, none⟩ = some (.int .i64 t.tim.weeks) := ((HB0.out.trans (HB_wy.out.mono hws)).cell (p := ⟨g, k * 6 + 1, none⟩) hgw).trans (HX.out.cell k 1 t _ HT.out (by decide) rfl)
        have q2 : wy.cell? ⟨g, k * 6 + 2, none⟩ = some (.int .i64 t.tim.day) := ((HB0.out.trans (HB_wy.out.mono hws)).cell (p := ⟨g, k * 6 + 2, none⟩) hgw).trans (HX.out.cell k 2 t _ HT.out (by decide) rfl)
        have q3 : wy.cell? ⟨g, k * 6 + 3, none⟩ = some (.int .i64 t.tim.start) := ((HB0.out.trans (HB_wy.out.mono hws)).cell (p := ⟨g, k * 6 + 3, none⟩) hgw).trans (HX.out.cell k 3 t _ HT.out (by decide) rfl)
        have q4 : wy.cell? ⟨g, k * 6 + 4, none⟩ = some (.int .i64 t.tim.len) := ((HB0.out.trans (HB_wy.out.mono hws)).cell (p := ⟨g, k * 6 + 4, none⟩) hgw).trans (HX.out.cell k 4 t _ HT.out (by decide) rfl)
        have q5 : wy.cell? ⟨g, k * 6 + 5, none⟩ = some (.string t.room) := ((HB0.out.trans (HB_wy.out.mono hws)).cell (p := ⟨g, k * 6 + 5, none⟩) hgw).trans (HX.out.cell k 5 t _ HT.out (by decide) rfl)
        have q0 : wy.cell? ⟨g, k * 6, none⟩ = some (.string t.cls) := q0
        go_wp2_with fail
        go_quiet (fail)
        obtain ⟨wz, hq⟩ : ∃ X, X = wy.drewN nq := ⟨_, rfl⟩
        have HY_wz := Lib.hid (show RowS w0.heap.size wz _ (ys) from by rw [hq]; exact HY_wy.out)
        have HB_wz := Lib.hid (show Below w0.heap.size w0 wz from by rw [hq]; exact HB_wy.out.trans ⟨rfl, rfl, rfl, Nat.le_refl _, fun k hk => rfl⟩)
        rw [← hq]; clear hq nq; clear p0 p1 p2 p3 p4 p5; clear q0 q1 q2 q3 q4 q5; have p0 : wz.cell? ⟨P, 0, none⟩ = some (.string s.cls) := (HP0.out.below HB_wz.out hPlt).cell 0
        have p1 : wz.cell? ⟨P, 1, none⟩ = some (.int .i64 s.tim.weeks) := (HP0.out.below HB_wz.out hPlt).cell 1
        have p2 : wz.cell? ⟨P, 2, none⟩ = some (.int .i64 s.tim.day) := (HP0.out.below HB_wz.out hPlt).cell 2
        have p3 : wz.cell? ⟨P, 3, none⟩ = some (.int .i64 s.tim.start) := (HP0.out.below HB_wz.out hPlt).cell 3
        have p4 : wz.cell? ⟨P, 4, none⟩ = some (.int .i64 s.tim.len) := (HP0.out.below HB_wz.out hPlt).cell 4
        have p5 : wz.cell? ⟨P, 5, none⟩ = some (.string s.room) := (HP0.out.below HB_wz.out hPlt).cell 5
        have q0 : wz.cell? ⟨g, k * 6 + 0, none⟩ = some (.string t.cls) := ((HB0.out.trans (HB_wz.out.mono hws)).cell (p := ⟨g, k * 6 + 0, none⟩) hgw).trans (HX.out.cell k 0 t _ HT.out (by decide) rfl)
        have q1 : wz.cell? ⟨g, k * 6 + 1, none⟩ = some (.int .i64 t.tim.weeks) := ((HB0.out.trans (HB_wz.out.mono hws)).cell (p := ⟨g, k * 6 + 1, none⟩) hgw).trans (HX.out.cell k 1 t _ HT.out (by decide) rfl)
        have q2 : wz.cell? ⟨g, k * 6 + 2, none⟩ = some (.int .i64 t.tim.day) := ((HB0.out.trans (HB_wz.out.mono hws)).cell (p := ⟨g, k * 6 + 2, none⟩) hgw).trans (HX.out.cell k 2 t _ HT.out (by decide) rfl)
        have q3 : wz.cell? ⟨g, k * 6 + 3, none⟩ = some (.int .i64 t.tim.start) := ((HB0.out.trans (HB_wz.out.mono hws)).cell (p := ⟨g, k * 6 + 3, none⟩) hgw).trans (HX.out.cell k 3 t _ HT.out (by decide) rfl)
        have q4 : wz.cell? ⟨g, k * 6 + 4, none⟩ = some (.int .i64 t.tim.len) := ((HB0.out.trans (HB_wz.out.mono hws)).cell (p := ⟨g, k * 6 + 4, none⟩) hgw).trans (HX.out.cell k 4 t _ HT.out (by decide) rfl)
        have q5 : wz.cell? ⟨g, k * 6 + 5, none⟩ = some (.string t.room) := ((HB0.out.trans (HB_wz.out.mono hws)).cell (p := ⟨g, k * 6 + 5, none⟩) hgw).trans (HX.out.cell k 5 t _ HT.out (by decide) rfl)
        have q0 : wz.cell? ⟨g, k * 6, none⟩ = some (.string t.cls) := q0
        cases eb
        · have HYL := Lib.hid hyl2; have HG2 := Lib.hid (show (ys ++ [t]) ++ putG s false (xs.drop (k + 1)) = putG s aw xs from by simpa using HGx.out)
          obtain ⟨pu, cu, hu⟩ := HY_wz.out.slice
          subst hu; go_wp2_with (at_builtin; refine wpList_append_own_at _ rfl (.tmp 41) (.tmp 46) 106 rfl w0.heap.size 110 i0 _ 6 64 Tryz.underlying106 hii hz0 hz1 hz2 rfl (by decide) _ _ _ rfl (World.ownsRow.alloc HY_wz.out _) ⟨wz.heap.size, 0, none⟩ 1 1 (sesCells t).toList rfl rfl (blk_cells (Blk.new wz (sesCells t) 110)) (sL_cell1 t) (by unfold maxLen; omega) (by omega) (by have := HB_wz.out.size; simp; omega) ?_)
          intro v8 x8 hown8 hgrow _ hat; have HB8 := Lib.hid (below_grownBy (HB_wz.out.trans ((below_box wz _).mono HB_wz.out.size)) (World.ownsRow.alloc HY_wz.out _) (Nat.le_refl _) (by have := HB_wz.out.size; simp; omega) hgrow)
          have HX8 := Lib.hid (show RowS w0.heap.size x8 v8 (ys ++ [t]) from RowS.snoc hown8)
          clear hown8 hgrow hat; clear p0 p1 p2 p3 p4 p5; clear q0 q1 q2 q3 q4 q5; go_wp2_with fail
          go_roundw
          case rel => exact ⟨k + 1, false, ys ++ [t], rfl, by go_num, by have := HLT.out; omega, by rw [List.length_append]; simp; have := HYL.out; first | omega | (simp at this; omega), HG2, HX8, HB8⟩
          case measure => simp [intOf]; omega
        · have HYL := Lib.hid hyl2; have HG2 := Lib.hid (show ys ++ putG s false (xs.drop (k + 1)) = putG s aw xs from by simpa using HGx.out)
          go_wp2_with fail
          go_roundw
          case rel => exact ⟨k + 1, false, ys, rfl, by go_num, by have := HLT.out; omega, by have := HYL.out; first | omega | (simp at this ⊢; omega), HG2, HY_wz, HB_wz⟩
          case measure => simp [intOf]; omega
      · have HGx := Lib.hid (show (ys ++ [s]) ++ ((if eb = true then [] else [t]) ++ putG s true (xs.drop (k + 1))) = putG s aw xs from by have h := HG.out; rw [putG_next HT.out HLB.out HEB.out] at h; simpa using h)
        go_wp2_with fail
        go_quiet (fail)
        obtain ⟨wy, hq⟩ : ∃ X, X = wr.drewN nq := ⟨_, rfl⟩
        have HY_wy := Lib.hid (show RowS w0.heap.size wy _ (ys) from by rw [hq]; exact HY.out)
        have HB_wy := Lib.hid (show Below w0.heap.size w0 wy from by rw [hq]; exact HB.out.trans ⟨rfl, rfl, rfl, Nat.le_refl _, fun k hk => rfl⟩)
        rw [← hq]; clear hq nq; clear p0 p1 p2 p3 p4 p5; clear q0 q1 q2 q3 q4 q5; have p0 : wy.cell? ⟨P, 0, none⟩ = some (.string s.cls) := (HP0.out.below HB_wy.out hPlt).cell 0
        have p1 : wy.cell? ⟨P, 1, none⟩ = some (.int .i64 s.tim.weeks) := (HP0.out.below HB_wy.out hPlt).cell 1
        have p2 : wy.cell? ⟨P, 2, none⟩ = some (.int .i64 s.tim.day) := (HP0.out.below HB_wy.out hPlt).cell 2
        have p3 : wy.cell? ⟨P, 3, none⟩ = some (.int .i64 s.tim.start) := (HP0.out.below HB_wy.out hPlt).cell 3
        have p4 : wy.cell? ⟨P, 4, none⟩ = some (.int .i64 s.tim.len) := (HP0.out.below HB_wy.out hPlt).cell 4
        have p5 : wy.cell? ⟨P, 5, none⟩ = some (.string s.room) := (HP0.out.below HB_wy.out hPlt).cell 5
        obtain ⟨pu, cu, hu⟩ := HY_wy.out.slice
        subst hu; go_wp2_with (at_builtin; refine wpList_append_own_at _ rfl (.tmp 29) (.tmp 31) 106 rfl w0.heap.size 110 i0 _ 6 64 Tryz.underlying106 hii hz0 hz1 hz2 rfl (by decide) _ _ _ rfl (World.ownsRow.alloc HY_wy.out _) ⟨wy.heap.size, 0, none⟩ 1 1 (sesCells s).toList rfl rfl (blk_cells (Blk.new wy (sesCells s) 110)) (sL_cell1 s) (by unfold maxLen; omega) (by omega) (by have := HB_wy.out.size; simp; omega) ?_)
        intro v8 x8 hown8 hgrow _ hat; have HB8 := Lib.hid (below_grownBy (HB_wy.out.trans ((below_box wy _).mono HB_wy.out.size)) (World.ownsRow.alloc HY_wy.out _) (Nat.le_refl _) (by have := HB_wy.out.size; simp; omega) hgrow)
        have HX8 := Lib.hid (show RowS w0.heap.size x8 v8 (ys ++ [s]) from RowS.snoc hown8)
        clear hown8 hgrow hat; clear p0 p1 p2 p3 p4 p5; have hyl3 : (ys ++ [s]).length ≤ k + 1 := by rw [List.length_append]; simp; omega
        clear hyl2; obtain ⟨zs, hzs⟩ : ∃ z, z = ys ++ [s] := ⟨_, rfl⟩
        rw [← hzs] at HX8 hyl3 HGx
        clear hzs; have hyl2 := hyl3; clear hyl3; have p0 : x8.cell? ⟨P, 0, none⟩ = some (.string s.cls) := (HP0.out.below HB8.out hPlt).cell 0
        have p1 : x8.cell? ⟨P, 1, none⟩ = some (.int .i64 s.tim.weeks) := (HP0.out.below HB8.out hPlt).cell 1
        have p2 : x8.cell? ⟨P, 2, none⟩ = some (.int .i64 s.tim.day) := (HP0.out.below HB8.out hPlt).cell 2
        have p3 : x8.cell? ⟨P, 3, none⟩ = some (.int .i64 s.tim.start) := (HP0.out.below HB8.out hPlt).cell 3
        have p4 : x8.cell? ⟨P, 4, none⟩ = some (.int .i64 s.tim.len) := (HP0.out.below HB8.out hPlt).cell 4
        have p5 : x8.cell? ⟨P, 5, none⟩ = some (.string s.room) := (HP0.out.below HB8.out hPlt).cell 5
        have q0 : x8.cell? ⟨g, k * 6 + 0, none⟩ = some (.string t.cls) := ((HB0.out.trans (HB8.out.mono hws)).cell (p := ⟨g, k * 6 + 0, none⟩) hgw).trans (HX.out.cell k 0 t _ HT.out (by decide) rfl)
        have q1 : x8.cell? ⟨g, k * 6 + 1, none⟩ = some (.int .i64 t.tim.weeks) := ((HB0.out.trans (HB8.out.mono hws)).cell (p := ⟨g, k * 6 + 1, none⟩) hgw).trans (HX.out.cell k 1 t _ HT.out (by decide) rfl)
        have q2 : x8.cell? ⟨g, k * 6 + 2, none⟩ = some (.int .i64 t.tim.day) := ((HB0.out.trans (HB8.out.mono hws)).cell (p := ⟨g, k * 6 + 2, none⟩) hgw).trans (HX.out.cell k 2 t _ HT.out (by decide) rfl)
        have q3 : x8.cell? ⟨g, k * 6 + 3, none⟩ = some (.int .i64 t.tim.start) := ((HB0.out.trans (HB8.out.mono hws)).cell (p := ⟨g, k * 6 + 3, none⟩) hgw).trans (HX.out.cell k 3 t _ HT.out (by decide) rfl)
        have q4 : x8.cell? ⟨g, k * 6 + 4, none⟩ = some (.int .i64 t.tim.len) := ((HB0.out.trans (HB8.out.mono hws)).cell (p := ⟨g, k * 6 + 4, none⟩) hgw).trans (HX.out.cell k 4 t _ HT.out (by decide) rfl)
        have q5 : x8.cell? ⟨g, k * 6 + 5, none⟩ = some (.string t.room) := ((HB0.out.trans (HB8.out.mono hws)).cell (p := ⟨g, k * 6 + 5, none⟩) hgw).trans (HX.out.cell k 5 t _ HT.out (by decide) rfl)
        have q0 : x8.cell? ⟨g, k * 6, none⟩ = some (.string t.cls) := q0
        go_wp2_with fail
        go_quiet (fail)
        obtain ⟨wz, hq⟩ : ∃ X, X = x8.drewN nq := ⟨_, rfl⟩
        have HY_wz := Lib.hid (show RowS w0.heap.size wz _ (zs) from by rw [hq]; exact HX8.out)
        have HB_wz := Lib.hid (show Below w0.heap.size w0 wz from by rw [hq]; exact HB8.out.trans ⟨rfl, rfl, rfl, Nat.le_refl _, fun k hk => rfl⟩)
        rw [← hq]; clear hq nq; clear p0 p1 p2 p3 p4 p5; clear q0 q1 q2 q3 q4 q5; have p0 : wz.cell? ⟨P, 0, none⟩ = some (.string s.cls) := (HP0.out.below HB_wz.out hPlt).cell 0
        have p1 : wz.cell? ⟨P, 1, none⟩ = some (.int .i64 s.tim.weeks) := (HP0.out.below HB_wz.out hPlt).cell 1
        have p2 : wz.cell? ⟨P, 2, none⟩ = some (.int .i64 s.tim.day) := (HP0.out.below HB_wz.out hPlt).cell 2
        have p3 : wz.cell? ⟨P, 3, none⟩ = some (.int .i64 s.tim.start) := (HP0.out.below HB_wz.out hPlt).cell 3
        have p4 : wz.cell? ⟨P, 4, none⟩ = some (.int .i64 s.tim.len) := (HP0.out.below HB_wz.out hPlt).cell 4
        have p5 : wz.cell? ⟨P, 5, none⟩ = some (.string s.room) := (HP0.out.below HB_wz.out hPlt).cell 5
        have q0 : wz.cell? ⟨g, k * 6 + 0, none⟩ = some (.string t.cls) := ((HB0.out.trans (HB_wz.out.mono hws)).cell (p := ⟨g, k * 6 + 0, none⟩) hgw).trans (HX.out.cell k 0 t _ HT.out (by decide) rfl)
        have q1 : wz.cell? ⟨g, k * 6 + 1, none⟩ = some (.int .i64 t.tim.weeks) := ((HB0.out.trans (HB_wz.out.mono hws)).cell (p := ⟨g, k * 6 + 1, none⟩) hgw).trans (HX.out.cell k 1 t _ HT.out (by decide) rfl)
        have q2 : wz.cell? ⟨g, k * 6 + 2, none⟩ = some (.int .i64 t.tim.day) := ((HB0.out.trans (HB_wz.out.mono hws)).cell (p := ⟨g, k * 6 + 2, none⟩) hgw).trans (HX.out.cell k 2 t _ HT.out (by decide) rfl)
        have q3 : wz.cell? ⟨g, k * 6 + 3, none⟩ = some (.int .i64 t.tim.start) := ((HB0.out.trans (HB_wz.out.mono hws)).cell (p := ⟨g, k * 6 + 3, none⟩) hgw).trans (HX.out.cell k 3 t _ HT.out (by decide) rfl)
        have q4 : wz.cell? ⟨g, k * 6 + 4, none⟩ = some (.int .i64 t.tim.len) := ((HB0.out.trans (HB_wz.out.mono hws)).cell (p := ⟨g, k * 6 + 4, none⟩) hgw).trans (HX.out.cell k 4 t _ HT.out (by decide) rfl)
        have q5 : wz.cell? ⟨g, k * 6 + 5, none⟩ = some (.string t.room) := ((HB0.out.trans (HB_wz.out.mono hws)).cell (p := ⟨g, k * 6 + 5, none⟩) hgw).trans (HX.out.cell k 5 t _ HT.out (by decide) rfl)
        have q0 : wz.cell? ⟨g, k * 6, none⟩ = some (.string t.cls) := q0
        cases eb
        · have HYL := Lib.hid hyl2; have HG2 := Lib.hid (show (zs ++ [t]) ++ putG s true (xs.drop (k + 1)) = putG s aw xs from by simpa using HGx.out)
          obtain ⟨pu, cu, hu⟩ := HY_wz.out.slice
          subst hu; go_wp2_with (at_builtin; refine wpList_append_own_at _ rfl (.tmp 41) (.tmp 46) 106 rfl w0.heap.size 110 i0 _ 6 64 Tryz.underlying106 hii hz0 hz1 hz2 rfl (by decide) _ _ _ rfl (World.ownsRow.alloc HY_wz.out _) ⟨wz.heap.size, 0, none⟩ 1 1 (sesCells t).toList rfl rfl (blk_cells (Blk.new wz (sesCells t) 110)) (sL_cell1 t) (by unfold maxLen; omega) (by omega) (by have := HB_wz.out.size; simp; omega) ?_)
          intro v8 x8 hown8 hgrow _ hat; have HB8 := Lib.hid (below_grownBy (HB_wz.out.trans ((below_box wz _).mono HB_wz.out.size)) (World.ownsRow.alloc HY_wz.out _) (Nat.le_refl _) (by have := HB_wz.out.size; simp; omega) hgrow)
          have HX8 := Lib.hid (show RowS w0.heap.size x8 v8 (zs ++ [t]) from RowS.snoc hown8)
          clear hown8 hgrow hat; clear p0 p1 p2 p3 p4 p5; clear q0 q1 q2 q3 q4 q5; go_wp2_with fail
          go_roundw
          case rel => exact ⟨k + 1, true, zs ++ [t], rfl, by go_num, by have := HLT.out; omega, by rw [List.length_append]; simp; have := HYL.out; first | omega | (simp at this; omega), HG2, HX8, HB8⟩
          case measure => simp [intOf]; omega
        · have HYL := Lib.hid hyl2; have HG2 := Lib.hid (show zs ++ putG s true (xs.drop (k + 1)) = putG s aw xs from by simpa using HGx.out)
          go_wp2_with fail
          go_roundw
          case rel => exact ⟨k + 1, true, zs, rfl, by go_num, by have := HLT.out; omega, by have := HYL.out; first | omega | (simp at this ⊢; omega), HG2, HY_wz, HB_wz⟩
          case measure => simp [intOf]; omega
end Go.Proofs.YtcomifbfldoeiaaGreatDoor
