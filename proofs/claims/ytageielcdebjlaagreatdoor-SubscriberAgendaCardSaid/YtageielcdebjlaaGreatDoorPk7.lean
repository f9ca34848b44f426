/- The feed's buffer: put appends one line. The lines of a feed without events, and that such a feed is valid. feed.Format of a feed without events. feed's parser: see, take, number; DeleteFunc where nothing is deleted. feed.Parse of the text of a feed without events. Feeds in memory; feed.Valid and timetableref40.Valid: their contracts. -/
import Derived.Test.YtageielcdebjlaaGreatDoorPk3
import Derived.Deep.AppendLies
import Derived.Deep.RegionLaw
import Derived.Deep.RegionHeld3
import Derived.Test.YtageielcdebjlaaGreatDoorPk2
import Derived.Deep.LoopGhost
import Derived.Test.YtageielcdebjlaaGreatDoorPk5
import Derived.WalkLawsBesides
-- Put
namespace Go.Proofs.YtageielcdebjlaaGreatDoor
open Go.RowKit

/-- The buffer in block b holds the lines xs. -/
structure Buf (b B : Nat) (xs : List ByteArray) (w : World) : Prop where
  lt : b < B
  ex : ∃ v, w.heap[b]? = some (.cells #[v] 210 (0, 0)) ∧ w.ownsRow B 9 1 v xs.length (xs.map Value.string)

end Go.Proofs.YtageielcdebjlaaGreatDoor

-- Written
namespace Go.Proofs.YtageielcdebjlaaGreatDoor
open Go.RowKit

theorem Buf.kept {b B : Nat} {xs : List ByteArray} {w w' : World} (h : Buf b B xs w) (hw : Below w.heap.size w w') : Buf b B xs w' := by
  obtain ⟨v, h1, h2⟩ := h.ex
  exact ⟨h.lt, v, (hw.block b (Array.getElem?_eq_some_iff.1 h1).1).trans h1, ownsRow_below h2 hw⟩

def str (l : List UInt8) : ByteArray := ⟨l.toArray⟩

/-- The three cells of a boxed feed, and that they are kept. -/
structure FeedAt (b : Nat) (n : ByteArray) (v : Int) (ev : Value) (w : World) : Prop where
  c0 : w.cell? ⟨b, 0, none⟩ = some (.string n)
  c1 : w.cell? ⟨b, 1, none⟩ = some (.int .i64 v)
  c2 : w.cell? ⟨b, 2, none⟩ = some ev

theorem FeedAt.but {a b B : Nat} {n : ByteArray} {v : Int} {ev : Value} {w w' : World} (h : FeedAt a n v ev w) (hw : But b B w w') (h1 : a < B) (h2 : a ≠ b) : FeedAt a n v ev w' :=
  ⟨(hw.cell (p := ⟨a, 0, none⟩) h1 h2).trans h.c0, (hw.cell (p := ⟨a, 1, none⟩) h1 h2).trans h.c1, (hw.cell (p := ⟨a, 2, none⟩) h1 h2).trans h.c2⟩

end Go.Proofs.YtageielcdebjlaaGreatDoor

-- Format
namespace Go.Proofs.YtageielcdebjlaaGreatDoor
open Go.RowKit

theorem FeedAt.below {a B : Nat} {n : ByteArray} {v : Int} {ev : Value} {w w' : World} (h : FeedAt a n v ev w) (hw : Below B w w') (h1 : a < B) : FeedAt a n v ev w' :=
  ⟨(hw.cell (p := ⟨a, 0, none⟩) h1).trans h.c0, (hw.cell (p := ⟨a, 1, none⟩) h1).trans h.c1, (hw.cell (p := ⟨a, 2, none⟩) h1).trans h.c2⟩

end Go.Proofs.YtageielcdebjlaaGreatDoor

-- Take
namespace Go.Proofs.YtageielcdebjlaaGreatDoor
open Go.RowKit

/-- A parser at block b: the lines that are left, and whether something was bad. -/
structure Par (b g o cap : Nat) (xs : List ByteArray) (z : ByteArray) (bad : Bool) (w : World) : Prop where
  hb : w.heap[b]? = some (.cells #[.slice (some ⟨g, o, none⟩) xs.length cap, .string z, .bool bad] 160 (0, 0))
  str : StrAt w (some ⟨g, o, none⟩) xs
  le : xs.length ≤ cap
  ne : g ≠ b

theorem Par.c0 {b g o cap : Nat} {xs : List ByteArray} {z : ByteArray} {bad : Bool} {w : World} (h : Par b g o cap xs z bad w) : w.cell? ⟨b, 0, none⟩ = some (.slice (some ⟨g, o, none⟩) xs.length cap) := by rw [Lib.cell_of_heap h.hb]; rfl
theorem Par.c2 {b g o cap : Nat} {xs : List ByteArray} {z : ByteArray} {bad : Bool} {w : World} (h : Par b g o cap xs z bad w) : w.cell? ⟨b, 2, none⟩ = some (.bool bad) := by rw [Lib.cell_of_heap h.hb]; rfl
theorem Par.f0 {b g o cap : Nat} {xs : List ByteArray} {z : ByteArray} {bad : Bool} {w : World} (h : Par b g o cap xs z bad w) (i : Nat) : w.frozen? ⟨b, i, none⟩ = false := Lib.frozen_of_heap h.hb i
theorem Par.hd {b g o cap : Nat} {x : ByteArray} {xs : List ByteArray} {z : ByteArray} {bad : Bool} {w : World} (h : Par b g o cap (x :: xs) z bad w) : w.cell? ⟨g, o, none⟩ = some (.string x) := by
  obtain ⟨a, ha, hc⟩ := h.str 0 x rfl
  cases ha
  simpa [Addr.add] using hc
theorem Par.lt {b g o cap : Nat} {xs : List ByteArray} {z : ByteArray} {bad : Bool} {w : World} (h : Par b g o cap xs z bad w) : b < w.heap.size := (Array.getElem?_eq_some_iff.1 h.hb).1

theorem addr_add2 (g o k : Nat) : (⟨g, o, none⟩ : Addr).add k = ⟨g, o + k, none⟩ := by
  unfold Addr.add
  split
  · simp [*]
  · simp

theorem Par.below {b g o cap : Nat} {xs : List ByteArray} {z : ByteArray} {bad : Bool} {w w' : World} (h : Par b g o cap xs z bad w) (hw : Below w.heap.size w w') (hg : g < w.heap.size) : Par b g o cap xs z bad w' :=
  ⟨(hw.block b h.lt).trans h.hb, fun j x hx => by
    obtain ⟨a, ha, hc⟩ := h.str j x hx
    refine ⟨a, ha, ?_⟩
    cases ha
    rw [addr_add2] at hc ⊢
    exact (hw.cell (p := ⟨g, o + j, none⟩) hg).trans hc, h.le, h.ne⟩
end Go.Proofs.YtageielcdebjlaaGreatDoor

-- Parse
namespace Go.Proofs.YtageielcdebjlaaGreatDoor
open Go.RowKit

/-- A feed in block f. -/
def FeedB (f : Nat) (n : ByteArray) (v : Int) (ev : Value) (w : World) : Prop := w.heap[f]? = some (.cells #[.string n, .int .i64 v, ev] 26 (0, 0))

theorem FeedB.block {f : Nat} {n : ByteArray} {v : Int} {ev : Value} {w w' : World} (h : FeedB f n v ev w) (hw : w'.heap[f]? = w.heap[f]?) : FeedB f n v ev w' := hw.trans h
theorem FeedB.lt {f : Nat} {n : ByteArray} {v : Int} {ev : Value} {w : World} (h : FeedB f n v ev w) : f < w.heap.size := (Array.getElem?_eq_some_iff.1 h).1
theorem FeedB.c0 {f : Nat} {n : ByteArray} {v : Int} {ev : Value} {w : World} (h : FeedB f n v ev w) : w.cell? ⟨f, 0, none⟩ = some (.string n) := by rw [Lib.cell_of_heap h]; rfl
theorem FeedB.c1 {f : Nat} {n : ByteArray} {v : Int} {ev : Value} {w : World} (h : FeedB f n v ev w) : w.cell? ⟨f, 1, none⟩ = some (.int .i64 v) := by rw [Lib.cell_of_heap h]; rfl
theorem FeedB.c2 {f : Nat} {n : ByteArray} {v : Int} {ev : Value} {w : World} (h : FeedB f n v ev w) : w.cell? ⟨f, 2, none⟩ = some ev := by rw [Lib.cell_of_heap h]; rfl
theorem FeedB.name {f : Nat} {n n' : ByteArray} {v : Int} {ev : Value} {w : World} (h : FeedB f n v ev w) : FeedB f n' v ev (w.setCell ⟨f, 0, none⟩ (.string n')) := by
  unfold FeedB at h ⊢
  simp [World.setCell, Array.getElem?_modify, h]
theorem FeedB.evs {f : Nat} {n : ByteArray} {v : Int} {ev ev' : Value} {w : World} (h : FeedB f n v ev w) : FeedB f n v ev' (w.setCell ⟨f, 2, none⟩ ev') := by
  unfold FeedB at h ⊢
  simp [World.setCell, Array.getElem?_modify, h]

end Go.Proofs.YtageielcdebjlaaGreatDoor
namespace Go.Proofs.YtageielcdebjlaaGreatDoor
open Go.RowKit

/-- A slice of whole numbers. -/
def SlI (B : Nat) (w : World) (v : Value) (xs : List Int) : Prop := ∃ ao c, v = .slice ao xs.length c ∧ Ints B w ao xs
theorem SlI.below {B : Nat} {w w' : World} {v : Value} {xs : List Int} (h : SlI B w v xs) (hw : Below B w w') : SlI B w' v xs := by
  obtain ⟨ao, c, hv, hI⟩ := h; exact ⟨ao, c, hv, hI.below hw⟩
theorem SlI.mono {B B' : Nat} {w : World} {v : Value} {xs : List Int} (h : SlI B w v xs) (hB : B ≤ B') : SlI B' w v xs := by
  obtain ⟨ao, c, hv, hI⟩ := h; exact ⟨ao, c, hv, hI.mono hB⟩

theorem EvC.below {B b p : Nat} {e : Ev} {v v' : Value} {w w' : World} (h : EvC b p e v v' w) (hb : b < B) (hw : Below B w w') : EvC b p e v v' w' := by
  have k : ∀ i, w'.cell? ⟨b, i, none⟩ = w.cell? ⟨b, i, none⟩ := fun i => hw.cell (p := ⟨b, i, none⟩) hb
  obtain ⟨c0, c1, c2, c3, c4, c5, c6, c7, c8, c9, c10, c11, c12⟩ := h; exact ⟨(k _).trans c0, (k _).trans c1, (k _).trans c2, (k _).trans c3, (k _).trans c4, (k _).trans c5, (k _).trans c6, (k _).trans c7, (k _).trans c8, (k _).trans c9, (k _).trans c10, (k _).trans c11, (k _).trans c12⟩

/-- What is known of the sizes in an event. -/
structure EvB (e : Ev) : Prop where
  ex : e.days.ex.length ≤ 4611686018427387903
  xt : e.days.xt.length ≤ 4611686018427387903
  uid : e.uid.size ≤ 4611686018427387904
  summ : e.summ.size ≤ 4611686018427387904
  loc : e.loc.size ≤ 4611686018427387904

/-- A slice of events, in blocks below B. -/
def Evs (B : Nat) (w : World) (ao : Option Addr) (es : List Ev) : Prop := es = [] ∨ ∃ b o, ao = some ⟨b, o, none⟩ ∧ b < B ∧ ∀ (j : Nat) (e : Ev), es[j]? = some e → EvB e ∧ ∃ v v', EvC b (o + j * 13) e v v' w ∧ SlI B w v e.days.ex ∧ SlI B w v' e.days.xt
theorem Evs.below {B : Nat} {w w' : World} {ao : Option Addr} {es : List Ev} (h : Evs B w ao es) (hw : Below B w w') : Evs B w' ao es := by
  rcases h with h | ⟨b, o, ha, hb, hc⟩
  · exact .inl h
  · refine .inr ⟨b, o, ha, hb, fun j e hj => ?_⟩
    obtain ⟨h1, v, v', h2, h3, h4⟩ := hc j e hj
    exact ⟨h1, v, v', h2.below hb hw, h3.below hw, h4.below hw⟩
theorem Evs.mono {B B' : Nat} {w : World} {ao : Option Addr} {es : List Ev} (h : Evs B w ao es) (hB : B ≤ B') : Evs B' w ao es := by
  rcases h with h | ⟨b, o, ha, hb, hc⟩
  · exact .inl h
  · refine .inr ⟨b, o, ha, by omega, fun j e hj => ?_⟩
    obtain ⟨h1, v, v', h2, h3, h4⟩ := hc j e hj
    exact ⟨h1, v, v', h2, h3.mono hB, h4.mono hB⟩
theorem Evs.form {B : Nat} {w : World} {ao : Option Addr} {es : List Ev} (h : Evs B w ao es) (hne : 0 < es.length) :
    ∃ b o, ao = some ⟨b, o, none⟩ ∧ b < B ∧ ∀ (j : Nat) (e : Ev), es[j]? = some e → EvB e ∧ ∃ v v', EvC b (o + j * 13) e v v' w ∧ SlI B w v e.days.ex ∧ SlI B w v' e.days.xt := by
  rcases h with h | h
  · rw [h] at hne; cases hne
  · exact h

set_option maxHeartbeats 8000000 in
set_option maxRecDepth 100000 in
theorem valid46 (n : ByteArray) (v : Int) (es : List Ev) (ao : Option Addr) (c : Nat) (B : Nat) (w : World) (hB : B ≤ w.heap.size) (hE : Evs B w ao es) (hn : es.length ≤ 4611686018427387903) :
    Calls Tryz.prog 46 #[.agg #[.string n, .int .i64 v, .slice ao es.length c]] w fun e w' => e = .returned (.int .i64 (feedV n v es)) ∧ Below w.heap.size w w' := by
  have HE := Lib.hid hE; clear hE; by_cases hc : Tt.code n.data.toList = false
  · have HR := Lib.hid (show feedV n v es = 10 by unfold feedV; rw [if_pos hc])
    have HC := Lib.hid hc; clear hc; go_enter Tryz.func46, Tryz.ntmps46
    go_wp2_with (go_at_call 94; refine (code_any _ _).mono ?_; rintro e w' ⟨rfl, rfl⟩; rw [HC.out])
    go_ret; exact ⟨ret_int HR.out.symm, below_box _ _⟩
  · by_cases h1 : v < 0 ∨ 64 < v
    · have HR := Lib.hid (show feedV n v es = 3 by unfold feedV; rw [if_neg hc, if_pos h1])
      have HC := Lib.hid (show Tt.code n.data.toList = true by simpa using hc)
      clear hc; rcases h1 with h1 | h1
      · go_enter Tryz.func46, Tryz.ntmps46
        go_wp2_with (go_at_call 94; refine (code_any _ _).mono ?_; rintro e w' ⟨rfl, rfl⟩; rw [HC.out])
        go_ret; exact ⟨ret_int HR.out.symm, below_box _ _⟩
      · have v1 : ¬ v < 0 := by omega
        go_enter Tryz.func46, Tryz.ntmps46
        go_wp2_with (go_at_call 94; refine (code_any _ _).mono ?_; rintro e w' ⟨rfl, rfl⟩; rw [HC.out])
        go_ret; exact ⟨ret_int HR.out.symm, below_box _ _⟩
    · by_cases h2 : 256 < (es.length : Int)
      · have HR := Lib.hid (show feedV n v es = 2 by unfold feedV; rw [if_neg hc, if_neg h1, if_pos h2])
        have HC := Lib.hid (show Tt.code n.data.toList = true by simpa using hc)
        have v1 : ¬ v < 0 := by omega
        have v2 : ¬ 64 < v := by omega
        clear hc h1; go_enter Tryz.func46, Tryz.ntmps46
        go_wp2_with (go_at_call 94; refine (code_any _ _).mono ?_; rintro e w' ⟨rfl, rfl⟩; rw [HC.out])
        go_ret; exact ⟨ret_int HR.out.symm, below_box _ _⟩
      · have v1 : ¬ v < 0 := by omega
        have v2 : ¬ 64 < v := by omega
        have HC := Lib.hid (show Tt.code n.data.toList = true by simpa using hc)
        have HV := Lib.hid (show feedV n v es = evsF v es 0 by unfold feedV; rw [if_neg hc, if_neg h1, if_neg h2]; rfl)
        have F0 : FeedB w.heap.size n v (.slice ao es.length c) (w.alloc (.cells #[.string n, .int .i64 v, .slice ao es.length c] 26)) := heap_alloc_new w _
        have HF0 := Lib.hid F0; clear hc h1 F0; go_enter Tryz.func46, Tryz.ntmps46
        go_wp2_with (go_at_call 94; refine (code_any _ _).mono ?_; rintro e w' ⟨rfl, rfl⟩; rw [HC.out])
        go_loopw [28] (fun iv wr => ∃ k : Nat, iv = .int .i64 k ∧ k ≤ es.length ∧ Below w.heap.size w wr ∧ Hid (FeedB w.heap.size n v (.slice ao es.length c) wr) ∧ Hid (evsF v es 0 = evsF v es k)) (fun iv _ => es.length - (intOf iv).toNat)
        case atStart => exact ⟨0, rfl, Nat.zero_le _, below_box _ _, HF0.out, rfl⟩
        case round =>
          obtain ⟨k, rfl, hk, hbe, HF, HK⟩ := hrel; have f0 := HF.out.c0; have f1 := HF.out.c1; have f2 := HF.out.c2; have hsz := HF.out.lt; by_cases hlt : k < es.length
          · obtain ⟨e, he⟩ : ∃ e, es[k]? = some e := ⟨_, List.getElem?_eq_getElem hlt⟩
            obtain ⟨b, o, ha, hb, hev⟩ := HE.out.form (by omega)
            subst ha; obtain ⟨hE1, x, x', hC, hX, hX'⟩ := hev k e he
            have HC1 := hC.below (w' := wr) hb (hbe.mono hB)
            obtain ⟨c0, c1, c2, c3, c4, c5, c6, c7, c8, c9, c10, c11, c12⟩ := HC1; obtain ⟨ax, cx, hx, hI⟩ := hX; obtain ⟨ay, cy, hy, hI'⟩ := hX'; subst hx hy
            have HEV := Lib.hid hev; have hki : (k : Int) < (es.length : Int) := by omega
            clear hev; go_wp2_with fail
            obtain ⟨W, hW⟩ : ∃ W, W = wr.alloc (.cells (evCells e (.slice ax e.days.ex.length cx) (.slice ay e.days.xt.length cy)) 82) := ⟨_, rfl⟩
            have hbW : Below wr.heap.size wr W := by rw [hW]; exact below_box wr _
            have HA0 : Hid (EvBox wr.heap.size e (.slice ax e.days.ex.length cx) (.slice ay e.days.xt.length cy) W) := by rw [hW]; exact heap_alloc_new wr _
            unfold evCells at hW
            rw [← hW]; clear hW; refine (right95 e.uid W hE1.uid).mono ?_
            rintro z w1 ⟨rfl, hb1⟩; have hbe1 := below_then (below_then hbe hbW) hb1
            have HA1 := Lib.hid (HA0.out.block (hb1.block _ HA0.out.lt))
            have HF1 := Lib.hid (HF.out.block ((hb1.block _ (Nat.lt_of_lt_of_le hsz hbW.size)).trans (hbW.block _ hsz)))
            have hHs := HA1.out.lt; have HSTEP := Lib.hid (evsF_cons v es k e he)
            have hB1 : Hid (Below wr.heap.size wr w1) := hbW.trans (hb1.mono hbW.size)
            clear hbW hb1 HA0 HF c0 c1 c2 c3 c4 c5 c6 c7 c8 c9 c10 c11 c12 f0 f1 f2; obtain ⟨c0, c1, c2, c3, c4, c5, c6, c7, c8, c9, c10, c11, c12⟩ := HA1.out.c
            have f0 := HF1.out.c0; have f1 := HF1.out.c1; have f2 := HF1.out.c2; cases hr : rightB e.uid.data.toList
            · have HR := Lib.hid (show feedV n v es = 4 from HV.out.trans (HK.out.trans (HSTEP.out.trans (if_pos hr))))
              clear hr; go_wp2_with fail
              go_ret; exact ⟨ret_int HR.out.symm, hbe1⟩
            · have HST2 := Lib.hid (HSTEP.out.trans (if_neg (by rw [hr]; simp)))
              clear hr; cases k with
              | zero =>
                go_wp2_with fail
                go_quiet (fail)
                obtain ⟨w2, hw2, hB2, hC2, hH2⟩ := redrew w1 nq
                have hbe2 := hbe1.trans (hB2 _)
                have HA2 := Lib.hid (HA1.out.block (hH2 _))
                have HF2 := Lib.hid (HF1.out.block (hH2 _))
                have hBB : Hid (Below wr.heap.size wr w2) := hB1.out.trans (hB2 _)
                rw [← hw2]; clear hw2 hB2 hC2 hH2 c0 c1 c2 c3 c4 c5 c6 c7 c8 c9 c10 c11 c12 f0 f1 f2 HA1 HF1 hHs hbe1 hB1; obtain ⟨c0, c1, c2, c3, c4, c5, c6, c7, c8, c9, c10, c11, c12⟩ := HA2.out.c
                have f0 := HF2.out.c0; have f1 := HF2.out.c1; have f2 := HF2.out.c2; have HST3 := Lib.hid (HST2.out.trans (if_neg (by show ¬ (false = true); simp)))
                go_wp2_with fail
                refine (check96 e v B w2 ax ay cx cy (Nat.le_trans hB hbe2.size) (hI.below (hbe2.mono hB)) (hI'.below (hbe2.mono hB)) hE1.ex hE1.xt hE1.summ hE1.loc).mono ?_
                rintro z w3 ⟨rfl, hb3⟩; have hbe3 := below_then hbe2 hb3; have HF3 := Lib.hid (HF2.out.block (hb3.block _ (Nat.lt_of_lt_of_le hsz hBB.out.size)))
                by_cases hcv : checkV e v = 0
                · have HR := Lib.hid (show evsF v es 0 = evsF v es (0 + 1) from HST3.out.trans (if_neg (by simp [hcv])))
                  rw [hcv]
                  clear hcv; go_wp2_with fail
                  go_roundw
                  case rel => exact ⟨0 + 1, by go_num, by omega, hbe3, HF3.out, HR.out⟩
                  case measure => simp [intOf]; omega
                · have HR := Lib.hid (show feedV n v es = checkV e v from HV.out.trans (HST3.out.trans (if_pos hcv)))
                  have hcv2 : (checkV e v != 0) = true := by simp [hcv]
                  clear hcv; go_wp2_with fail
                  go_ret; exact ⟨ret_int HR.out.symm, hbe3⟩
              | succ j =>
                obtain ⟨p, hp⟩ : ∃ p, es[j]? = some p := ⟨_, List.getElem?_eq_getElem (by omega)⟩
                obtain ⟨_, y, y', hCp, _, _⟩ := HEV.out j p hp
                have p0 := (hCp.below (w' := w1) hb (hbe1.mono hB)).c0
                clear hCp; go_wp2_with fail
                go_quiet (fail)
                obtain ⟨w2, hw2, hB2, hC2, hH2⟩ := redrew w1 nq
                have hbe2 := hbe1.trans (hB2 _)
                have HA2 := Lib.hid (HA1.out.block (hH2 _))
                have HF2 := Lib.hid (HF1.out.block (hH2 _))
                have hBB : Hid (Below wr.heap.size wr w2) := hB1.out.trans (hB2 _)
                rw [← hw2]; clear hw2 hB2 hC2 hH2 c0 c1 c2 c3 c4 c5 c6 c7 c8 c9 c10 c11 c12 f0 f1 f2 HA1 HF1 hHs hbe1 hB1 p0; obtain ⟨c0, c1, c2, c3, c4, c5, c6, c7, c8, c9, c10, c11, c12⟩ := HA2.out.c
                have f0 := HF2.out.c0; have f1 := HF2.out.c1; have f2 := HF2.out.c2; have hprev := Lib.hid (prevU_succ es j p hp)
                cases hlt2 : (Op.bytesLess e.uid.toList p.uid.toList || e.uid.toList == p.uid.toList)
                case true =>
                  have HR := Lib.hid (show feedV n v es = 63 from HV.out.trans (HK.out.trans (HST2.out.trans (if_pos (by rw [hprev.out]; exact hlt2)))))
                  clear hlt2 hp; go_wp2_with fail
                  go_ret; exact ⟨ret_int HR.out.symm, hbe2⟩
                have HST3 := Lib.hid (HST2.out.trans (if_neg (by rw [hprev.out]; show ¬ (_ = true); rw [show lateU (some p.uid) e.uid = false from hlt2]; simp)))
                clear hlt2 hp; go_wp2_with fail
                refine (check96 e v B w2 ax ay cx cy (Nat.le_trans hB hbe2.size) (hI.below (hbe2.mono hB)) (hI'.below (hbe2.mono hB)) hE1.ex hE1.xt hE1.summ hE1.loc).mono ?_
                rintro z w3 ⟨rfl, hb3⟩; have hbe3 := below_then hbe2 hb3; have HF3 := Lib.hid (HF2.out.block (hb3.block _ (Nat.lt_of_lt_of_le hsz hBB.out.size)))
                by_cases hcv : checkV e v = 0
                · have HR := Lib.hid (show evsF v es 0 = evsF v es ((j + 1) + 1) from HK.out.trans (HST3.out.trans (if_neg (by simp [hcv]))))
                  rw [hcv]
                  clear hcv; go_wp2_with fail
                  go_roundw
                  case rel => exact ⟨(j + 1) + 1, by go_num, by omega, hbe3, HF3.out, HR.out⟩
                  case measure => simp [intOf]; omega
                · have HR := Lib.hid (show feedV n v es = checkV e v from HV.out.trans (HK.out.trans (HST3.out.trans (if_pos hcv))))
                  have hcv2 : (checkV e v != 0) = true := by simp [hcv]
                  clear hcv; go_wp2_with fail
                  go_ret; exact ⟨ret_int HR.out.symm, hbe3⟩
          · have hki : ¬ (k : Int) < (es.length : Int) := by omega
            have HR := Lib.hid (show feedV n v es = 0 from HV.out.trans (HK.out.trans (evsF_end v es k (by omega))))
            go_wp2_with fail
            go_ret; exact ⟨ret_int HR.out.symm, hbe⟩
end Go.Proofs.YtageielcdebjlaaGreatDoor
