/- The feed of a timetable's versions: what feed.Make answers. Lists of lists of sessions in memory. No function of the program in sight. The small generators of grids, weeks and times: their contracts. -/
import Derived.Test.YtcomifbfldoeiaaGreatDoorPk16
import Derived.Test.YtcomifbfldoeiaaGreatDoorChgV
import Derived.Test.YtcomifbfldoeiaaGreatDoorPk13
import Derived.Test.YtcomifbfldoeiaaGreatDoorPk15
import Derived.Test.YtcomifbfldoeiaaGreatDoorPk10
namespace Go.Proofs.YtcomifbfldoeiaaGreatDoor
open Go.RowKit

/-- The first version that is not valid. -/
def chgsV (n : Int) : List (List Ses) → Int
  | [] => 0
  | l :: r => if chgV l n ≠ 0 then chgV l n else chgsV n r
theorem chgsV_step (n : Int) (ls : List (List Ses)) (k : Nat) (l : List Ses) (h : ls[k]? = some l) : chgsV n (ls.drop k) = if chgV l n ≠ 0 then chgV l n else chgsV n (ls.drop (k + 1)) := by
  obtain ⟨h1, h2⟩ := List.getElem?_eq_some_iff.1 h
  rw [List.drop_eq_getElem_cons h1, h2]; rfl
theorem chgsV_each (n : Int) : ∀ (ls : List (List Ses)), chgsV n ls = 0 → ∀ l ∈ ls, chgV l n = 0
  | [], _, l, hl => by cases hl
  | a :: r, h, l, hl => by
    unfold chgsV at h
    by_cases h1 : chgV a n ≠ 0
    · rw [if_pos h1] at h; exact absurd h h1
    · rw [if_neg h1] at h
      rcases List.mem_cons.1 hl with rfl | hl
      · simpa using h1
      · exact chgsV_each n r h l hl
theorem chgV_len {l : List Ses} {n : Int} (h : chgV l n = 0) : l.length ≤ 96 := by
  unfold chgV at h
  split at h
  · cases h
  · split at h
    · cases h
    · rename_i h2; omega
def makC (g : Tt.Grd) (t : Tt.Trm) (nm : ByteArray) (ls : List (List Ses)) : Int :=
  if Tt.gridV g ≠ 0 ∨ Tt.trmV t ≠ 0 then 1 else if Tt.code nm.data.toList = false then 10 else if 64 < (ls.length : Int) then 2 else if chgsV t.weeks ls ≠ 0 then chgsV t.weeks ls else if 256 < ((makeE g t 1 ls []).length : Int) then 2 else 0
def makF (g : Tt.Grd) (t : Tt.Trm) (nm : ByteArray) (ls : List (List Ses)) : ByteArray × Int × List Ev :=
  if makC g t nm ls = 0 then (nm, (ls.length : Int), makeE g t 1 ls []) else (⟨#[]⟩, 0, [])
theorem makC_1 {g : Tt.Grd} {t : Tt.Trm} {nm : ByteArray} {ls : List (List Ses)} (h : Tt.gridV g ≠ 0 ∨ Tt.trmV t ≠ 0) : makC g t nm ls = 1 := if_pos h
theorem makC_10 {g : Tt.Grd} {t : Tt.Trm} {nm : ByteArray} {ls : List (List Ses)} (h1 : Tt.gridV g = 0) (h2 : Tt.trmV t = 0) (h : Tt.code nm.data.toList = false) : makC g t nm ls = 10 := (if_neg (by simp [h1, h2])).trans (if_pos h)
theorem makC_2 {g : Tt.Grd} {t : Tt.Trm} {nm : ByteArray} {ls : List (List Ses)} (h1 : Tt.gridV g = 0) (h2 : Tt.trmV t = 0) (h3 : Tt.code nm.data.toList = true) (h : 64 < (ls.length : Int)) : makC g t nm ls = 2 := (if_neg (by simp [h1, h2])).trans ((if_neg (by simp [h3])).trans (if_pos h))
theorem makC_c {g : Tt.Grd} {t : Tt.Trm} {nm : ByteArray} {ls : List (List Ses)} (h1 : Tt.gridV g = 0) (h2 : Tt.trmV t = 0) (h3 : Tt.code nm.data.toList = true) (h4 : ¬ 64 < (ls.length : Int)) (h : chgsV t.weeks ls ≠ 0) : makC g t nm ls = chgsV t.weeks ls := (if_neg (by simp [h1, h2])).trans ((if_neg (by simp [h3])).trans ((if_neg h4).trans (if_pos h)))
theorem makC_n {g : Tt.Grd} {t : Tt.Trm} {nm : ByteArray} {ls : List (List Ses)} (h1 : Tt.gridV g = 0) (h2 : Tt.trmV t = 0) (h3 : Tt.code nm.data.toList = true) (h4 : ¬ 64 < (ls.length : Int)) (h5 : chgsV t.weeks ls = 0) (h : 256 < ((makeE g t 1 ls []).length : Int)) : makC g t nm ls = 2 := (if_neg (by simp [h1, h2])).trans ((if_neg (by simp [h3])).trans ((if_neg h4).trans ((if_neg (by simp [h5])).trans (if_pos h))))
theorem makC_0 {g : Tt.Grd} {t : Tt.Trm} {nm : ByteArray} {ls : List (List Ses)} (h1 : Tt.gridV g = 0) (h2 : Tt.trmV t = 0) (h3 : Tt.code nm.data.toList = true) (h4 : ¬ 64 < (ls.length : Int)) (h5 : chgsV t.weeks ls = 0) (h : ¬ 256 < ((makeE g t 1 ls []).length : Int)) : makC g t nm ls = 0 := (if_neg (by simp [h1, h2])).trans ((if_neg (by simp [h3])).trans ((if_neg h4).trans ((if_neg (by simp [h5])).trans (if_neg h))))
/-- What the two Makes answer. -/
def MakR (g : Tt.Grd) (t : Tt.Trm) (nm : ByteArray) (ls : List (List Ses)) (lo : Nat) (e : Ending) (w' : World) : Prop :=
  ∃ v ts, e = .returned (.tuple #[.agg #[.string (makF g t nm ls).1, .int .i64 (makF g t nm ls).2.1, v], .int .i64 (makC g t nm ls)]) ∧ RowT lo w' v ts ∧ ts.map (·.1) = (makF g t nm ls).2.2
theorem makR_bad {g : Tt.Grd} {t : Tt.Trm} {nm : ByteArray} {ls : List (List Ses)} {lo : Nat} {w' : World} {c : Int} (h : makC g t nm ls = c) (h0 : c ≠ 0) : MakR g t nm ls lo (.returned (.tuple #[.agg #[.string ⟨#[]⟩, .int .i64 0, .slice none 0 0], .int .i64 c])) w' := by
  have hF : makF g t nm ls = (⟨#[]⟩, 0, []) := if_neg (by rw [h]; exact h0)
  refine ⟨.slice none 0 0, [], ?_, RowT.nil _ _, ?_⟩
  · rw [hF, h]
  · rw [hF]; rfl
theorem makR_ok {g : Tt.Grd} {t : Tt.Trm} {nm : ByteArray} {ls : List (List Ses)} {lo : Nat} {w' : World} {v : Value} {ts : List (Ev × Value × Value)} (h : makC g t nm ls = 0) (hr : RowT lo w' v ts) (he : ts.map (·.1) = makeE g t 1 ls []) : MakR g t nm ls lo (.returned (.tuple #[.agg #[.string nm, .int .i64 (ls.length : Int), v], .int .i64 0])) w' := by
  have hF : makF g t nm ls = (nm, (ls.length : Int), makeE g t 1 ls []) := if_pos h
  refine ⟨v, ts, ?_, hr, ?_⟩
  · rw [hF, h]
  · rw [hF]; exact he
/-- A slice of slices of sessions, in blocks below B. -/
def LstAt (B : Nat) (w : World) (ao : Option Addr) (ls : List (List Ses)) : Prop :=
  ls = [] ∨ ∃ b o, ao = some ⟨b, o, none⟩ ∧ b < B ∧ ∀ (j : Nat) (l : List Ses), ls[j]? = some l → ∃ p c, w.cell? ⟨b, o + j, none⟩ = some (.slice p l.length c) ∧ l.length ≤ c ∧ c ≤ 9223372036854775807 ∧ l.length ≤ 100000 ∧ SesAt B w p l
theorem LstAt.below {B : Nat} {w w' : World} {ao : Option Addr} {ls : List (List Ses)} (h : LstAt B w ao ls) (hb : Below B w w') : LstAt B w' ao ls := by
  rcases h with h | ⟨b, o, h1, h2, h3⟩
  · exact .inl h
  · refine .inr ⟨b, o, h1, h2, fun j l hl => ?_⟩
    obtain ⟨p, c, k1, k2, k3, k4, k5⟩ := h3 j l hl
    exact ⟨p, c, (hb.cell (p := ⟨b, o + j, none⟩) h2).trans k1, k2, k3, k4, k5.below hb⟩
theorem LstAt.at_ {B : Nat} {w : World} {ao : Option Addr} {ls : List (List Ses)} (h : LstAt B w ao ls) {j : Nat} {l : List Ses} (hl : ls[j]? = some l) : ∃ b o p c, ao = some ⟨b, o, none⟩ ∧ b < B ∧ w.cell? ⟨b, o + j, none⟩ = some (.slice p l.length c) ∧ l.length ≤ c ∧ c ≤ 9223372036854775807 ∧ l.length ≤ 100000 ∧ SesAt B w p l := by
  rcases h with h | ⟨b, o, h1, h2, h3⟩
  · subst h; cases hl
  · obtain ⟨p, c, k1, k2, k3, k4, k5⟩ := h3 j l hl
    exact ⟨b, o, p, c, h1, h2, k1, k2, k3, k4, k5⟩
theorem makeE_take (g : Tt.Grd) (t : Tt.Trm) (ls : List (List Ses)) (k : Nat) (l : List Ses) (h : ls[k]? = some l) : makeE g t 1 (ls.take (k + 1)) [] = advV g t ((k : Int) + 1) l (makeE g t 1 (ls.take k) []) := by
  obtain ⟨h1, h2⟩ := List.getElem?_eq_some_iff.1 h
  rw [List.take_add_one, h, Option.toList_some, makeE_snoc, List.length_take, Nat.min_eq_left (Nat.le_of_lt h1)]
  congr 1
  omega
theorem AscU_makeE (g : Tt.Grd) (t : Tt.Trm) : ∀ (ls : List (List Ses)) (k : Int) (es : List Ev), AscU es → AscU (makeE g t k ls es)
  | [], _, _, h => h
  | l :: r, k, es, h => by
    rw [makeE]
    refine AscU_makeE g t r _ _ ?_
    unfold advV
    refine AscU.gone ?_
    have : ∀ (fs es : List Ev), AscU es → AscU (fs.foldl (advS k) es) := by
      intro fs; induction fs with
      | nil => intro es h; exact h
      | cons f r ih => intro es h; exact ih _ h.adv
    exact this _ _ h
/-- Two ascending lists of the same events are one. -/
theorem AscU.same : ∀ {xs ys : List Ev}, AscU xs → AscU ys → xs.Perm ys → xs = ys
  | [], ys, _, _, hp => (List.nil_perm.1 hp).symm
  | x :: r, [], _, _, hp => by have := hp.length_eq; simp at this
  | x :: r, y :: q, hx, hy, hp => by
    obtain ⟨h1, h2⟩ := List.pairwise_cons.1 hx
    obtain ⟨k1, k2⟩ := List.pairwise_cons.1 hy
    have he : x = y := by
      rcases List.mem_cons.1 (hp.mem_iff.1 (List.mem_cons_self (a := x) (l := r))) with e | hm
      · exact e
      · rcases List.mem_cons.1 (hp.mem_iff.2 (List.mem_cons_self (a := y) (l := q))) with e | hn
        · exact e.symm
        · have a := k1 x hm; have b := h1 y hn
          have := lessU_trans a b
          rw [lessU_irrefl] at this; cases this
    subst he; rw [AscU.same h2 k2 (List.perm_cons _ |>.1 hp)]
end Go.Proofs.YtcomifbfldoeiaaGreatDoor
namespace Go.Proofs.YtcomifbfldoeiaaGreatDoor
open Go.RowKit

theorem fillS {b g : Nat} {ty : TypeId} {cs : Array Value} {w0 w : World} (h : Blk g cs ty w) (hs : Sofar b w0 w) (hg : w0.heap.size ≤ g) (hb : b < g) (vs : List Value) (hl : cs.size = vs.length) : ∃ Y, Y = setAll w g 0 vs ∧ Blk g vs.toArray ty Y ∧ Sofar b w0 Y := by
  refine ⟨_, rfl, ?_, ⟨but_setAll hg vs 0 w hs.but, dice_setAll hb vs 0 w hs.dice⟩⟩
  have := Blk.puts (g := g) (ty := ty) vs [] cs.toList [] w (by simpa using h) (by simpa using hl)
  simpa using this
theorem Tt.grid_ok {a b c d : Int} (a0 : 0 ≤ a) (a1 : a < 5) (b0 : 0 ≤ b) (b1 : b < 7) (c0 : 0 ≤ c) (c1 : c < 8) (d0 : 0 ≤ d) (d1 : d < 3) : Tt.gridV ⟨1 + a, 2 + b, 480 + 15 * c, 30 + 15 * d⟩ = 0 := by
  have h1 : (2 + b) * (30 + 15 * d) ≤ 8 * 60 := Int.le_trans (Int.mul_le_mul_of_nonneg_right (show 2 + b ≤ 8 by omega) (by omega)) (Int.mul_le_mul_of_nonneg_left (show 30 + 15 * d ≤ 60 by omega) (by omega))
  unfold Tt.gridV
  rw [if_neg]
  show ¬ (1 + a < 1 ∨ 7 < 1 + a ∨ 2 + b < 1 ∨ 24 < 2 + b ∨ 480 + 15 * c < 0 ∨ 1440 ≤ 480 + 15 * c ∨ 30 + 15 * d < 5 ∨ 120 < 30 + 15 * d ∨ 1440 < 480 + 15 * c + (2 + b) * (30 + 15 * d))
  omega
set_option maxHeartbeats 8000000 in
set_option maxRecDepth 100000 in
theorem grid60v (b : Nat) (w : World) (hd : Dice b w) : Calls Tryz.prog 36 #[.pointer (some ⟨b, 0, none⟩)] w fun e w' => ∃ g : Tt.Grd, e = .returned (grdVal g) ∧ Tt.gridV g = 0 ∧ 1 ≤ g.days ∧ g.days ≤ 5 ∧ 2 ≤ g.slots ∧ g.slots ≤ 8 ∧ Sofar b w w' := by
  have hblt := hd.lt; obtain ⟨R, hR⟩ : ∃ g, g = w.heap.size := ⟨_, rfl⟩
  obtain ⟨w0, hw0⟩ : ∃ X, X = (w.alloc (.cells #[.int .i64 0, .int .i64 0, .int .i64 0, .int .i64 0] 91)) := ⟨_, rfl⟩
  have HS_w0 := Lib.hid (show Sofar b w w0 from by rw [hw0]; exact ((Sofar.refl hd).alloc _))
  have HR_w0 := Lib.hid (show Blk R #[.int .i64 0, .int .i64 0, .int .i64 0, .int .i64 0] 91 w0 from by rw [hw0, hR]; exact Blk.new' _ _ _ (by simp))
  have lR : w.heap.size ≤ R := by omega
  have bR : b < R := by omega
  go_enter Tryz.func36, Tryz.ntmps36
  go_upto_region 1 with (fail)
  rw [← hw0, ← hR]; clear hw0 hR; go_wp2_with fail
  refine (next_any b 5 _ HS_w0.out.dice (by omega) (by omega)).mono ?_
  rintro e w1 ⟨a1, rfl, l1, u1, -, hd, ho⟩; have u1 := u1 (by omega)
  have HS_w1 := Lib.hid (HS_w0.out.only hd ho)
  have HR_w1 := Lib.hid (HR_w0.out.only ho (by omega))
  clear hd ho HS_w0 HR_w0; go_wp2_with fail
  refine (next_any b 7 _ HS_w1.out.dice (by omega) (by omega)).mono ?_
  rintro e w2 ⟨a2, rfl, l2, u2, -, hd, ho⟩; have u2 := u2 (by omega)
  have HS_w2 := Lib.hid (HS_w1.out.only hd ho)
  have HR_w2 := Lib.hid (HR_w1.out.only ho (by omega))
  clear hd ho HS_w1 HR_w1; go_wp2_with fail
  refine (next_any b 8 _ HS_w2.out.dice (by omega) (by omega)).mono ?_
  rintro e w3 ⟨a3, rfl, l3, u3, -, hd, ho⟩; have u3 := u3 (by omega)
  have HS_w3 := Lib.hid (HS_w2.out.only hd ho)
  have HR_w3 := Lib.hid (HR_w2.out.only ho (by omega))
  clear hd ho HS_w2 HR_w2; go_wp2_with fail
  refine (next_any b 3 _ HS_w3.out.dice (by omega) (by omega)).mono ?_
  rintro e w4 ⟨a4, rfl, l4, u4, -, hd, ho⟩; have u4 := u4 (by omega)
  have HS_w4 := Lib.hid (HS_w3.out.only hd ho)
  have HR_w4 := Lib.hid (HR_w3.out.only ho (by omega))
  clear hd ho HS_w3 HR_w3; have cR0 : w4.cell? ⟨R, 0, none⟩ = some (.int .i64 0) := HR_w4.out.cell 0
  have cR1 : w4.cell? ⟨R, 1, none⟩ = some (.int .i64 0) := HR_w4.out.cell 1
  have cR2 : w4.cell? ⟨R, 2, none⟩ = some (.int .i64 0) := HR_w4.out.cell 2
  have cR3 : w4.cell? ⟨R, 3, none⟩ = some (.int .i64 0) := HR_w4.out.cell 3
  have fR0 := HR_w4.out.frozen 0; have fR1 := HR_w4.out.frozen 1; have fR2 := HR_w4.out.frozen 2; have fR3 := HR_w4.out.frozen 3; go_wp2_with fail
  obtain ⟨Y, hY, hBk, hE⟩ := fillS HR_w4.out HS_w4.out lR (by omega) [.int .i64 (1 + a1), .int .i64 (2 + a2), .int .i64 (480 + 15 * a3), .int .i64 (30 + 15 * a4)] rfl
  simp only [setAll, Nat.zero_add] at hY
  rw [← hY]; clear cR0 cR1 cR2 cR3 fR0 fR1 fR2 fR3; clear hY; have r0 := hBk.cell 0; have r1 := hBk.cell 1; have r2 := hBk.cell 2; have r3 := hBk.cell 3; simp only [List.getElem?_toArray, List.getElem?_cons_zero, List.getElem?_cons_succ] at r0 r1 r2 r3
  refine bodyPost_ret (v := .agg #[.int .i64 (1 + a1), .int .i64 (2 + a2), .int .i64 (480 + 15 * a3), .int .i64 (30 + 15 * a4)]) (by simp [results, Tryz.results36, go_sem, r0, r1, r2, r3]) rfl ?_
  exact ⟨⟨1 + a1, 2 + a2, 480 + 15 * a3, 30 + 15 * a4⟩, rfl, Tt.grid_ok l1 u1 l2 u2 l3 u3 l4 u4, by show 1 ≤ 1 + a1; omega, by show 1 + a1 ≤ 5; omega, by show 2 ≤ 2 + a2; omega, by show 2 + a2 ≤ 8; omega, hE⟩
set_option maxHeartbeats 8000000 in
set_option maxRecDepth 100000 in
theorem set143_1 (b : Nat) (w : World) (hd : Dice b w) : Calls Tryz.prog 136 #[.pointer (some ⟨b, 0, none⟩), .int .i64 1] w fun e w' => ∃ x : Int, e = .returned (.int .i64 x) ∧ 1 ≤ x ∧ x < 2 ∧ Sofar b w w' := by
  have HS_w := Lib.hid (Sofar.refl hd)
  go_enter Tryz.func136, Tryz.ntmps136
  go_wp2_with fail
  refine (next_any b 4 _ HS_w.out.dice (by omega) (by omega)).mono ?_
  rintro e w1 ⟨a1, rfl, l1, u1, -, hd, ho⟩; have u1 := u1 (by omega)
  have HS_w1 := Lib.hid (HS_w.out.only hd ho)
  clear hd ho HS_w ; rcases (show a1 = 0 ∨ a1 = 1 ∨ 2 ≤ a1 by omega) with rfl | rfl | h2
  · go_wp2_with fail
    go_ret; exact ⟨_, rfl, by decide, by decide, HS_w1.out⟩
  · go_wp2_with fail
    go_ret; exact ⟨_, rfl, by decide, by decide, HS_w1.out⟩
  · have g0 : (a1 == 0) = false := beq_eq_false_iff_ne.2 (by omega)
    have g1 : (a1 == 1) = false := beq_eq_false_iff_ne.2 (by omega)
    go_wp2_with fail
    refine (next_any b 1 _ HS_w1.out.dice (by omega) (by omega)).mono ?_
    rintro e w2 ⟨a2, rfl, l2, u2, -, hd, ho⟩; have u2 := u2 (by omega)
    have HS_w2 := Lib.hid (HS_w1.out.only hd ho)
    clear hd ho HS_w1 ; go_wp2_with fail
    go_ret; exact ⟨_, rfl, by omega, by omega, HS_w2.out⟩
set_option maxHeartbeats 8000000 in
set_option maxRecDepth 100000 in
theorem set143_2 (b : Nat) (w : World) (hd : Dice b w) : Calls Tryz.prog 136 #[.pointer (some ⟨b, 0, none⟩), .int .i64 2] w fun e w' => ∃ x : Int, e = .returned (.int .i64 x) ∧ 1 ≤ x ∧ x < 4 ∧ Sofar b w w' := by
  have HS_w := Lib.hid (Sofar.refl hd)
  go_enter Tryz.func136, Tryz.ntmps136
  go_wp2_with fail
  refine (next_any b 4 _ HS_w.out.dice (by omega) (by omega)).mono ?_
  rintro e w1 ⟨a1, rfl, l1, u1, -, hd, ho⟩; have u1 := u1 (by omega)
  have HS_w1 := Lib.hid (HS_w.out.only hd ho)
  clear hd ho HS_w ; rcases (show a1 = 0 ∨ a1 = 1 ∨ 2 ≤ a1 by omega) with rfl | rfl | h2
  · go_wp2_with fail
    go_ret; exact ⟨_, rfl, by decide, by decide, HS_w1.out⟩
  · go_wp2_with fail
    go_ret; exact ⟨_, rfl, by decide, by decide, HS_w1.out⟩
  · have g0 : (a1 == 0) = false := beq_eq_false_iff_ne.2 (by omega)
    have g1 : (a1 == 1) = false := beq_eq_false_iff_ne.2 (by omega)
    go_wp2_with fail
    refine (next_any b 3 _ HS_w1.out.dice (by omega) (by omega)).mono ?_
    rintro e w2 ⟨a2, rfl, l2, u2, -, hd, ho⟩; have u2 := u2 (by omega)
    have HS_w2 := Lib.hid (HS_w1.out.only hd ho)
    clear hd ho HS_w1 ; go_wp2_with fail
    go_ret; exact ⟨_, rfl, by omega, by omega, HS_w2.out⟩
set_option maxHeartbeats 8000000 in
set_option maxRecDepth 100000 in
theorem set143_3 (b : Nat) (w : World) (hd : Dice b w) : Calls Tryz.prog 136 #[.pointer (some ⟨b, 0, none⟩), .int .i64 3] w fun e w' => ∃ x : Int, e = .returned (.int .i64 x) ∧ 1 ≤ x ∧ x < 8 ∧ Sofar b w w' := by
  have HS_w := Lib.hid (Sofar.refl hd)
  go_enter Tryz.func136, Tryz.ntmps136
  go_wp2_with fail
  refine (next_any b 4 _ HS_w.out.dice (by omega) (by omega)).mono ?_
  rintro e w1 ⟨a1, rfl, l1, u1, -, hd, ho⟩; have u1 := u1 (by omega)
  have HS_w1 := Lib.hid (HS_w.out.only hd ho)
  clear hd ho HS_w ; rcases (show a1 = 0 ∨ a1 = 1 ∨ 2 ≤ a1 by omega) with rfl | rfl | h2
  · go_wp2_with fail
    go_ret; exact ⟨_, rfl, by decide, by decide, HS_w1.out⟩
  · go_wp2_with fail
    go_ret; exact ⟨_, rfl, by decide, by decide, HS_w1.out⟩
  · have g0 : (a1 == 0) = false := beq_eq_false_iff_ne.2 (by omega)
    have g1 : (a1 == 1) = false := beq_eq_false_iff_ne.2 (by omega)
    go_wp2_with fail
    refine (next_any b 7 _ HS_w1.out.dice (by omega) (by omega)).mono ?_
    rintro e w2 ⟨a2, rfl, l2, u2, -, hd, ho⟩; have u2 := u2 (by omega)
    have HS_w2 := Lib.hid (HS_w1.out.only hd ho)
    clear hd ho HS_w1 ; go_wp2_with fail
    go_ret; exact ⟨_, rfl, by omega, by omega, HS_w2.out⟩
set_option maxHeartbeats 8000000 in
set_option maxRecDepth 100000 in
theorem set143_4 (b : Nat) (w : World) (hd : Dice b w) : Calls Tryz.prog 136 #[.pointer (some ⟨b, 0, none⟩), .int .i64 4] w fun e w' => ∃ x : Int, e = .returned (.int .i64 x) ∧ 1 ≤ x ∧ x < 16 ∧ Sofar b w w' := by
  have HS_w := Lib.hid (Sofar.refl hd)
  go_enter Tryz.func136, Tryz.ntmps136
  go_wp2_with fail
  refine (next_any b 4 _ HS_w.out.dice (by omega) (by omega)).mono ?_
  rintro e w1 ⟨a1, rfl, l1, u1, -, hd, ho⟩; have u1 := u1 (by omega)
  have HS_w1 := Lib.hid (HS_w.out.only hd ho)
  clear hd ho HS_w ; rcases (show a1 = 0 ∨ a1 = 1 ∨ 2 ≤ a1 by omega) with rfl | rfl | h2
  · go_wp2_with fail
    go_ret; exact ⟨_, rfl, by decide, by decide, HS_w1.out⟩
  · go_wp2_with fail
    go_ret; exact ⟨_, rfl, by decide, by decide, HS_w1.out⟩
  · have g0 : (a1 == 0) = false := beq_eq_false_iff_ne.2 (by omega)
    have g1 : (a1 == 1) = false := beq_eq_false_iff_ne.2 (by omega)
    go_wp2_with fail
    refine (next_any b 15 _ HS_w1.out.dice (by omega) (by omega)).mono ?_
    rintro e w2 ⟨a2, rfl, l2, u2, -, hd, ho⟩; have u2 := u2 (by omega)
    have HS_w2 := Lib.hid (HS_w1.out.only hd ho)
    clear hd ho HS_w1 ; go_wp2_with fail
    go_ret; exact ⟨_, rfl, by omega, by omega, HS_w2.out⟩
set_option maxHeartbeats 8000000 in
set_option maxRecDepth 100000 in
theorem set143_5 (b : Nat) (w : World) (hd : Dice b w) : Calls Tryz.prog 136 #[.pointer (some ⟨b, 0, none⟩), .int .i64 5] w fun e w' => ∃ x : Int, e = .returned (.int .i64 x) ∧ 1 ≤ x ∧ x < 32 ∧ Sofar b w w' := by
  have HS_w := Lib.hid (Sofar.refl hd)
  go_enter Tryz.func136, Tryz.ntmps136
  go_wp2_with fail
  refine (next_any b 4 _ HS_w.out.dice (by omega) (by omega)).mono ?_
  rintro e w1 ⟨a1, rfl, l1, u1, -, hd, ho⟩; have u1 := u1 (by omega)
  have HS_w1 := Lib.hid (HS_w.out.only hd ho)
  clear hd ho HS_w ; rcases (show a1 = 0 ∨ a1 = 1 ∨ 2 ≤ a1 by omega) with rfl | rfl | h2
  · go_wp2_with fail
    go_ret; exact ⟨_, rfl, by decide, by decide, HS_w1.out⟩
  · go_wp2_with fail
    go_ret; exact ⟨_, rfl, by decide, by decide, HS_w1.out⟩
  · have g0 : (a1 == 0) = false := beq_eq_false_iff_ne.2 (by omega)
    have g1 : (a1 == 1) = false := beq_eq_false_iff_ne.2 (by omega)
    go_wp2_with fail
    refine (next_any b 31 _ HS_w1.out.dice (by omega) (by omega)).mono ?_
    rintro e w2 ⟨a2, rfl, l2, u2, -, hd, ho⟩; have u2 := u2 (by omega)
    have HS_w2 := Lib.hid (HS_w1.out.only hd ho)
    clear hd ho HS_w1 ; go_wp2_with fail
    go_ret; exact ⟨_, rfl, by omega, by omega, HS_w2.out⟩
set_option maxHeartbeats 8000000 in
set_option maxRecDepth 100000 in
theorem set143_6 (b : Nat) (w : World) (hd : Dice b w) : Calls Tryz.prog 136 #[.pointer (some ⟨b, 0, none⟩), .int .i64 6] w fun e w' => ∃ x : Int, e = .returned (.int .i64 x) ∧ 1 ≤ x ∧ x < 64 ∧ Sofar b w w' := by
  have HS_w := Lib.hid (Sofar.refl hd)
  go_enter Tryz.func136, Tryz.ntmps136
  go_wp2_with fail
  refine (next_any b 4 _ HS_w.out.dice (by omega) (by omega)).mono ?_
  rintro e w1 ⟨a1, rfl, l1, u1, -, hd, ho⟩; have u1 := u1 (by omega)
  have HS_w1 := Lib.hid (HS_w.out.only hd ho)
  clear hd ho HS_w ; rcases (show a1 = 0 ∨ a1 = 1 ∨ 2 ≤ a1 by omega) with rfl | rfl | h2
  · go_wp2_with fail
    go_ret; exact ⟨_, rfl, by decide, by decide, HS_w1.out⟩
  · go_wp2_with fail
    go_ret; exact ⟨_, rfl, by decide, by decide, HS_w1.out⟩
  · have g0 : (a1 == 0) = false := beq_eq_false_iff_ne.2 (by omega)
    have g1 : (a1 == 1) = false := beq_eq_false_iff_ne.2 (by omega)
    go_wp2_with fail
    refine (next_any b 63 _ HS_w1.out.dice (by omega) (by omega)).mono ?_
    rintro e w2 ⟨a2, rfl, l2, u2, -, hd, ho⟩; have u2 := u2 (by omega)
    have HS_w2 := Lib.hid (HS_w1.out.only hd ho)
    clear hd ho HS_w1 ; go_wp2_with fail
    go_ret; exact ⟨_, rfl, by omega, by omega, HS_w2.out⟩
set_option maxHeartbeats 8000000 in
set_option maxRecDepth 100000 in
theorem set143_7 (b : Nat) (w : World) (hd : Dice b w) : Calls Tryz.prog 136 #[.pointer (some ⟨b, 0, none⟩), .int .i64 7] w fun e w' => ∃ x : Int, e = .returned (.int .i64 x) ∧ 1 ≤ x ∧ x < 128 ∧ Sofar b w w' := by
  have HS_w := Lib.hid (Sofar.refl hd)
  go_enter Tryz.func136, Tryz.ntmps136
  go_wp2_with fail
  refine (next_any b 4 _ HS_w.out.dice (by omega) (by omega)).mono ?_
  rintro e w1 ⟨a1, rfl, l1, u1, -, hd, ho⟩; have u1 := u1 (by omega)
  have HS_w1 := Lib.hid (HS_w.out.only hd ho)
  clear hd ho HS_w ; rcases (show a1 = 0 ∨ a1 = 1 ∨ 2 ≤ a1 by omega) with rfl | rfl | h2
  · go_wp2_with fail
    go_ret; exact ⟨_, rfl, by decide, by decide, HS_w1.out⟩
  · go_wp2_with fail
    go_ret; exact ⟨_, rfl, by decide, by decide, HS_w1.out⟩
  · have g0 : (a1 == 0) = false := beq_eq_false_iff_ne.2 (by omega)
    have g1 : (a1 == 1) = false := beq_eq_false_iff_ne.2 (by omega)
    go_wp2_with fail
    refine (next_any b 127 _ HS_w1.out.dice (by omega) (by omega)).mono ?_
    rintro e w2 ⟨a2, rfl, l2, u2, -, hd, ho⟩; have u2 := u2 (by omega)
    have HS_w2 := Lib.hid (HS_w1.out.only hd ho)
    clear hd ho HS_w1 ; go_wp2_with fail
    go_ret; exact ⟨_, rfl, by omega, by omega, HS_w2.out⟩
set_option maxHeartbeats 8000000 in
set_option maxRecDepth 100000 in
theorem set143_8 (b : Nat) (w : World) (hd : Dice b w) : Calls Tryz.prog 136 #[.pointer (some ⟨b, 0, none⟩), .int .i64 8] w fun e w' => ∃ x : Int, e = .returned (.int .i64 x) ∧ 1 ≤ x ∧ x < 256 ∧ Sofar b w w' := by
  have HS_w := Lib.hid (Sofar.refl hd)
  go_enter Tryz.func136, Tryz.ntmps136
  go_wp2_with fail
  refine (next_any b 4 _ HS_w.out.dice (by omega) (by omega)).mono ?_
  rintro e w1 ⟨a1, rfl, l1, u1, -, hd, ho⟩; have u1 := u1 (by omega)
  have HS_w1 := Lib.hid (HS_w.out.only hd ho)
  clear hd ho HS_w ; rcases (show a1 = 0 ∨ a1 = 1 ∨ 2 ≤ a1 by omega) with rfl | rfl | h2
  · go_wp2_with fail
    go_ret; exact ⟨_, rfl, by decide, by decide, HS_w1.out⟩
  · go_wp2_with fail
    go_ret; exact ⟨_, rfl, by decide, by decide, HS_w1.out⟩
  · have g0 : (a1 == 0) = false := beq_eq_false_iff_ne.2 (by omega)
    have g1 : (a1 == 1) = false := beq_eq_false_iff_ne.2 (by omega)
    go_wp2_with fail
    refine (next_any b 255 _ HS_w1.out.dice (by omega) (by omega)).mono ?_
    rintro e w2 ⟨a2, rfl, l2, u2, -, hd, ho⟩; have u2 := u2 (by omega)
    have HS_w2 := Lib.hid (HS_w1.out.only hd ho)
    clear hd ho HS_w1 ; go_wp2_with fail
    go_ret; exact ⟨_, rfl, by omega, by omega, HS_w2.out⟩
set_option maxHeartbeats 8000000 in
set_option maxRecDepth 100000 in
theorem set143 (b : Nat) (n : Int) (w : World) (hd : Dice b w) (h0 : 1 ≤ n) (h1 : n ≤ 8) : Calls Tryz.prog 136 #[.pointer (some ⟨b, 0, none⟩), .int .i64 n] w fun e w' => ∃ x : Int, e = .returned (.int .i64 x) ∧ 1 ≤ x ∧ x < ((2 ^ n.toNat : Nat) : Int) ∧ Sofar b w w' := by
  rcases (show n = 1 ∨ n = 2 ∨ n = 3 ∨ n = 4 ∨ n = 5 ∨ n = 6 ∨ n = 7 ∨ n = 8 by omega) with rfl | rfl | rfl | rfl | rfl | rfl | rfl | rfl
  · exact set143_1 b w hd
  · exact set143_2 b w hd
  · exact set143_3 b w hd
  · exact set143_4 b w hd
  · exact set143_5 b w hd
  · exact set143_6 b w hd
  · exact set143_7 b w hd
  · exact set143_8 b w hd
end Go.Proofs.YtcomifbfldoeiaaGreatDoor
