/- Stretches of events in memory: their cells and what they refer to. No function of the program in sight. Condition: none. An append of a stretch of events to a row of one's own. No function of the program in sight. Condition: none. Plain facts on the reference's Put: an event laid into a list in the order of the identifiers. No program in sight. Condition: none. Plain facts on the order of identifiers, and on valid lists of events. No program in sight. Condition: none. subscriber.find with slices.BinarySearchFunc: its contract. Plain facts on merging: the place of a search is the place of Put; the fold over a feed's events; the merged list stays valid. No program in sight. Condition: none. The lines of a feed, and feed.written for every valid feed. -/
import Derived.Test.YtageielcdebjlaaGreatDoorPk25
import Derived.Sort.Walk0
import Derived.Test.YtageielcdebjlaaGreatDoorFeedV
import Derived.Test.YtageielcdebjlaaGreatDoorEvL
namespace Go.Proofs.YtageielcdebjlaaGreatDoor
open Go.RowKit

/-- What an event refers to, in blocks below B. -/
def RefS (B : Nat) (w : World) (t : Ev × Value × Value) : Prop := EvB t.1 ∧ SlI B w t.2.1 t.1.days.ex ∧ SlI B w t.2.2 t.1.days.xt
theorem RefS.below {B : Nat} {w w' : World} {t : Ev × Value × Value} (h : RefS B w t) (hw : Below B w w') : RefS B w' t := ⟨h.1, h.2.1.below hw, h.2.2.below hw⟩
theorem RefS.mono {B B' : Nat} {w : World} {t : Ev × Value × Value} (h : RefS B w t) (hB : B ≤ B') : RefS B' w t := ⟨h.1, h.2.1.mono hB, h.2.2.mono hB⟩

/-- A stretch of events from an address on, in blocks below B. -/
structure Seg (B : Nat) (w : World) (ao : Option Addr) (ts : List (Ev × Value × Value)) : Prop where
  at' : ts = [] ∨ ∃ b o, ao = some ⟨b, o, none⟩ ∧ b < B ∧ ∀ (j : Nat) (u : Value), (tCells ts)[j]? = some u → w.cell? ⟨b, o + j, none⟩ = some u
  ref : ∀ t ∈ ts, RefS B w t

theorem Seg.below {B : Nat} {w w' : World} {ao : Option Addr} {ts : List (Ev × Value × Value)} (h : Seg B w ao ts) (hw : Below B w w') : Seg B w' ao ts := by
  refine ⟨?_, fun t ht => (h.ref t ht).below hw⟩
  rcases h.at' with h | ⟨b, o, ha, hb, hc⟩
  · exact .inl h
  · exact .inr ⟨b, o, ha, hb, fun j u hj => (hw.cell (p := ⟨b, o + j, none⟩) hb).trans (hc j u hj)⟩
theorem Seg.mono {B B' : Nat} {w : World} {ao : Option Addr} {ts : List (Ev × Value × Value)} (h : Seg B w ao ts) (hB : B ≤ B') : Seg B' w ao ts := by
  refine ⟨?_, fun t ht => (h.ref t ht).mono hB⟩
  rcases h.at' with h | ⟨b, o, ha, hb, hc⟩
  · exact .inl h
  · exact .inr ⟨b, o, ha, by omega, hc⟩
theorem Seg.nil (B : Nat) (w : World) (ao : Option Addr) : Seg B w ao [] := ⟨.inl rfl, fun t h => by cases h⟩

theorem tCells_app (a b : List (Ev × Value × Value)) : tCells (a ++ b) = tCells a ++ tCells b := by unfold tCells; simp
theorem tCells_take (ts : List (Ev × Value × Value)) (k : Nat) (hk : k ≤ ts.length) : tCells (ts.take k) = (tCells ts).take (k * 13) := by
  have h : tCells ts = tCells (ts.take k) ++ tCells (ts.drop k) := by rw [← tCells_app, List.take_append_drop]
  rw [h, List.take_left' (by rw [tCells_len, List.length_take, Nat.min_eq_left hk])]
theorem tCells_drop (ts : List (Ev × Value × Value)) (k : Nat) (hk : k ≤ ts.length) : tCells (ts.drop k) = (tCells ts).drop (k * 13) := by
  have h : tCells ts = tCells (ts.take k) ++ tCells (ts.drop k) := by rw [← tCells_app, List.take_append_drop]
  rw [h, List.drop_left' (by rw [tCells_len, List.length_take, Nat.min_eq_left hk])]

theorem Seg.take {B : Nat} {w : World} {ao : Option Addr} {ts : List (Ev × Value × Value)} (h : Seg B w ao ts) (k : Nat) (hk : k ≤ ts.length) : Seg B w ao (ts.take k) := by
  refine ⟨?_, fun t ht => h.ref t (List.mem_of_mem_take ht)⟩
  rcases h.at' with h | ⟨b, o, ha, hb, hc⟩
  · exact .inl (by rw [h]; simp)
  · refine .inr ⟨b, o, ha, hb, fun j u hj => hc j u ?_⟩
    rw [tCells_take ts k hk, List.getElem?_take] at hj
    split at hj
    · exact hj
    · cases hj
theorem Seg.drop {B : Nat} {w : World} {b o : Nat} {ts : List (Ev × Value × Value)} (h : Seg B w (some ⟨b, o, none⟩) ts) (k : Nat) (hk : k ≤ ts.length) : Seg B w (some ⟨b, o + k * 13, none⟩) (ts.drop k) := by
  refine ⟨?_, fun t ht => h.ref t (List.mem_of_mem_drop ht)⟩
  rcases h.at' with h | ⟨b', o', ha, hb, hc⟩
  · exact .inl (by rw [h]; simp)
  · cases ha
    refine .inr ⟨b, o + k * 13, rfl, hb, fun j u hj => ?_⟩
    rw [tCells_drop ts k hk, List.getElem?_drop] at hj
    rw [Nat.add_assoc]
    exact hc _ u hj
theorem seg_c {w : World} {b o : Nat} {ts : List (Ev × Value × Value)} (h : ∀ (j : Nat) (u : Value), (tCells ts)[j]? = some u → w.cell? ⟨b, o + j, none⟩ = some u) (j : Nat) (t : Ev × Value × Value) (ht : ts[j]? = some t) : EvC b (o + j * 13) t.1 t.2.1 t.2.2 w := by
  have hc : ∀ i u, i < 13 → (evCells t.1 t.2.1 t.2.2).toList[i]? = some u → w.cell? ⟨b, o + j * 13 + i, none⟩ = some u := fun i u hi hu => by
    rw [Nat.add_assoc]
    exact h (j * 13 + i) u (by rw [tCells_get ts j i t ht hi]; exact hu)
  refine ⟨?_, ?_, ?_, ?_, ?_, ?_, ?_, ?_, ?_, ?_, ?_, ?_, ?_⟩
  · exact hc 0 _ (by omega) rfl
  · exact hc 1 _ (by omega) rfl
  · exact hc 2 _ (by omega) rfl
  · exact hc 3 _ (by omega) rfl
  · exact hc 4 _ (by omega) rfl
  · exact hc 5 _ (by omega) rfl
  · exact hc 6 _ (by omega) rfl
  · exact hc 7 _ (by omega) rfl
  · exact hc 8 _ (by omega) rfl
  · exact hc 9 _ (by omega) rfl
  · exact hc 10 _ (by omega) rfl
  · exact hc 11 _ (by omega) rfl
  · exact hc 12 _ (by omega) rfl
theorem Seg.evs {B : Nat} {w : World} {ao : Option Addr} {ts : List (Ev × Value × Value)} (h : Seg B w ao ts) : Evs B w ao (ts.map (·.1)) := by
  rcases h.at' with h | ⟨b, o, ha, hb, hc⟩
  · exact .inl (by rw [h]; rfl)
  · refine .inr ⟨b, o, ha, hb, fun j e hj => ?_⟩
    obtain ⟨t, ht, he⟩ : ∃ t, ts[j]? = some t ∧ t.1 = e := by
      rw [List.getElem?_map] at hj
      cases h2 : ts[j]? with
      | none => rw [h2] at hj; cases hj
      | some t => rw [h2] at hj; exact ⟨t, rfl, by simpa using hj⟩
    subst he; obtain ⟨r1, r2, r3⟩ := h.ref t (List.mem_of_getElem? ht)
    exact ⟨r1, t.2.1, t.2.2, seg_c hc j t ht, r2, r3⟩
theorem RowE.seg {lo : Nat} {w : World} {v : Value} {ts : List (Ev × Value × Value)} (h : RowE lo w v ts) : ∃ ao c, v = .slice ao ts.length c ∧ Seg w.heap.size w ao ts := by
  have hr : ∀ t ∈ ts, RefS w.heap.size w t := fun t ht => by
    obtain ⟨hg, hx, hy⟩ := h.ref t ht
    obtain ⟨ax, cx, e1, i1⟩ := hx.ints
    obtain ⟨ay, cy, e2, i2⟩ := hy.ints
    exact ⟨hg.b, ⟨ax, cx, e1, i1⟩, ⟨ay, cy, e2, i2⟩⟩
  rcases h.row.2 with ⟨hv, h0⟩ | ⟨g, cap, cur, hv, r2, r3, r4, r5, _⟩
  · have : ts = [] := List.eq_nil_of_length_eq_zero h0
    subst this; exact ⟨none, 0, hv, Seg.nil _ _ _⟩
  · refine ⟨_, cap, hv, .inr ⟨g, 0, rfl, (Array.getElem?_eq_some_iff.1 r3).1, fun j u hj => ?_⟩, hr⟩
    have := h.row.cells (g := g) (by rw [hv]; rfl) j u hj
    rw [Addr.add_lit] at this
    exact this
end Go.Proofs.YtageielcdebjlaaGreatDoor
namespace Go.Proofs.YtageielcdebjlaaGreatDoor
open Go.RowKit

theorem Seg.one {B : Nat} {w : World} {ao : Option Addr} {ts : List (Ev × Value × Value)} (h : Seg B w ao ts) : ∀ u ∈ tCells ts, u.oneCell' = true := by
  intro u hu; unfold tCells at hu
  obtain ⟨t, ht, hut⟩ := List.mem_flatMap.1 hu
  obtain ⟨_, ⟨ax, cx, e1, _⟩, ⟨ay, cy, e2, _⟩⟩ := h.ref t ht
  rw [e1, e2] at hut
  exact evCells_one _ _ _ _ _ _ _ u hut

end Go.Proofs.YtageielcdebjlaaGreatDoor
namespace Go.Proofs.YtageielcdebjlaaGreatDoor
open Go.RowKit

/-- Is an identifier ahead of another? -/
def lessU (a b : ByteArray) : Bool := Op.bytesLess a.toList b.toList

end Go.Proofs.YtageielcdebjlaaGreatDoor
namespace Go.Proofs.YtageielcdebjlaaGreatDoor
open Go.RowKit

theorem lessU_iff (a b : ByteArray) : lessU a b = true ↔ a.toList < b.toList := by unfold lessU; rw [bytesLess_eq]; simp
theorem lessU_trans {a b c : ByteArray} (h : lessU a b = true) (k : lessU b c = true) : lessU a c = true := by
  rw [lessU_iff] at *; exact List.lt_trans h k
theorem lessU_irrefl (a : ByteArray) : lessU a a = false := by
  rw [← Bool.not_eq_true, lessU_iff]; exact List.lt_irrefl _
/-- Do the identifiers ascend? -/
def UpU (es : List Ev) : Prop := ∀ (i j : Nat) (a b : Ev), i < j → es[i]? = some a → es[j]? = some b → lessU a.uid b.uid = true
theorem evsV_cons (v : Int) (p : Option ByteArray) (e : Ev) (r : List Ev) : evsV v p (e :: r) = 0 ↔ rightB e.uid.data.toList = true ∧ lateU p e.uid = false ∧ checkV e v = 0 ∧ evsV v (some e.uid) r = 0 := by
  rw [evsV]
  constructor
  · intro h; split at h
    · cases h
    · rename_i h1
      split at h
      · cases h
      · rename_i h2
        split at h
        · rename_i h3; exact absurd h h3
        · rename_i h3; exact ⟨by simpa using h1, by simpa using h2, by simpa using h3, h⟩
  · rintro ⟨h1, h2, h3, h4⟩; rw [if_neg (by rw [h1]; simp), if_neg (by rw [h2]; simp), if_neg (by rw [h3]; simp)]
    exact h4

/-- Where the identifiers ascend, the events ahead of an identifier come first. -/
theorem UpU.first {es : List Ev} (h : UpU es) {i j : Nat} {a b : Ev} {u : ByteArray} (hij : i ≤ j) (ha : es[i]? = some a) (hb : es[j]? = some b) (hl : lessU b.uid u = true) : lessU a.uid u = true := by
  rcases Nat.lt_or_eq_of_le hij with k | k
  · exact lessU_trans (h i j a b k ha hb) hl
  · subst k; rw [ha] at hb
    cases hb
    exact hl
theorem UpU.one {es : List Ev} (h : UpU es) {i j : Nat} {a b : Ev} (ha : es[i]? = some a) (hb : es[j]? = some b) (he : a.uid = b.uid) : i = j := by
  rcases Nat.lt_trichotomy i j with k | k | k
  · have := h i j a b k ha hb; rw [he, lessU_irrefl] at this; cases this
  · exact k
  · have := h j i b a k hb ha; rw [he, lessU_irrefl] at this; cases this
end Go.Proofs.YtageielcdebjlaaGreatDoor
namespace Go.Proofs.YtageielcdebjlaaGreatDoor
open Go.RowKit

/-- How an identifier compares with another. -/
def cmpU (a b : ByteArray) : Int := Lib.compareBytes a.data.toList b.data.toList

/-- Is a given event ahead of the place sought? -/
def ahead (es : List Ev) (u : ByteArray) (k : Nat) : Prop := ∃ e, es[k]? = some e ∧ cmpU e.uid u < 0
end Go.Proofs.YtageielcdebjlaaGreatDoor
namespace Go.Proofs.YtageielcdebjlaaGreatDoor
open Go.RowKit

theorem evsV_each (v : Int) : ∀ (es : List Ev) (p : Option ByteArray), evsV v p es = 0 → ∀ e ∈ es, rightB e.uid.data.toList = true ∧ checkV e v = 0
  | [], _, _, _, he => by cases he
  | s :: r, p, h, e, he => by
    obtain ⟨h1, h2, h3, h4⟩ := (evsV_cons v p s r).1 h
    rcases List.mem_cons.1 he with rfl | he
    · exact ⟨h1, h3⟩
    · exact evsV_each v r _ h4 e he
theorem feedV_ok {n : ByteArray} {v : Int} {es : List Ev} (h : feedV n v es = 0) : 0 ≤ v ∧ v ≤ 64 ∧ es.length ≤ 256 ∧ evsV v none es = 0 := by
  unfold feedV at h
  split at h
  · cases h
  · split at h
    · cases h
    · split at h
      · cases h
      · exact ⟨by omega, by omega, by omega, h⟩
end Go.Proofs.YtageielcdebjlaaGreatDoor
namespace Go.Proofs.YtageielcdebjlaaGreatDoor
open Go.RowKit

/-- The lines of a feed ahead of its events. -/
def headL (n : List UInt8) (v : Int) : List (List UInt8) := [[66, 69, 71, 73, 78, 58, 86, 67, 65, 76, 69, 78, 68, 65, 82], [86, 69, 82, 83, 73, 79, 78, 58, 50, 46, 48], [80, 82, 79, 68, 73, 68, 58, 45, 47, 47, 116, 105, 109, 101, 116, 97, 98, 108, 101, 47, 47, 69, 78], [78, 65, 77, 69, 58] ++ n, [82, 69, 86, 73, 83, 73, 79, 78, 58] ++ Lib.decDigits v.toNat]
/-- The lines of a feed. -/
def feedL (n : List UInt8) (v : Int) (es : List Ev) (z : List UInt8) : List (List UInt8) := headL n v ++ es.flatMap (fun e => evLines e z) ++ [[69, 78, 68, 58, 86, 67, 65, 76, 69, 78, 68, 65, 82]]
theorem evLines_len (e : Ev) (z : List UInt8) : (evLines e z).length ≤ 13 := by
  unfold evLines
  simp only [List.length_append]
  have h1 : (evA e z).length = 6 := rfl
  have h2 : (evX e z).length ≤ 1 := by unfold evX; split <;> simp
  have h3 : (evR e z).length ≤ 1 := by unfold evR; split <;> simp
  have h4 : (evS e).length = 1 := rfl
  have h5 : (evL e).length ≤ 1 := by unfold evL; split <;> simp
  have h6 : (evC e).length = 2 := rfl
  omega
theorem flat_len (z : List UInt8) : ∀ es : List Ev, (es.flatMap fun e => evLines e z).length ≤ 13 * es.length
  | [] => Nat.le_refl _
  | e :: r => by
    rw [List.flatMap_cons, List.length_append, List.length_cons]
    have := flat_len z r
    have := evLines_len e z
    omega
theorem right_size {u : ByteArray} (h : rightB u.data.toList = true) : u.size ≤ 1000 := by
  rw [Lib.size_eq]
  generalize u.data.toList = l at h
  by_cases hm : (64 : UInt8) ∈ l
  · obtain ⟨a, b, rfl, ha⟩ := Tt.first_split l hm
    unfold rightB Tt.rightP at h
    rw [Tt.cut_first a b ha] at h
    simp only [Bool.true_and, Bool.and_eq_true] at h
    obtain ⟨hc, hn⟩ := h; have hla : a.length ≤ 16 := by
      cases a with
      | nil => simp
      | cons c r =>
        unfold Tt.code at hc
        simp only [Bool.and_eq_true, decide_eq_true_eq] at hc
        exact hc.1.1
    have hlb : b.length ≤ 5 := by
      unfold Tt.numFrom at hn
      rw [decide_eq_true_iff] at hn
      obtain ⟨j, hj, -, rfl⟩ := hn; exact Tt.dec_len 4 j (by omega)
    simp only [List.length_append, List.length_cons]
    omega
  · rw [show rightB l = false from Tt.rightP_none _ _ hm] at h
    cases h
theorem code_size {z : ByteArray} (h : Tt.code z.data.toList = true) : z.size ≤ 16 := by
  rw [Lib.size_eq]
  generalize z.data.toList = l at h
  cases l with
  | nil => simp
  | cons c r =>
    unfold Tt.code at h
    simp only [Bool.and_eq_true, decide_eq_true_eq] at h
    exact h.1.1

set_option maxRecDepth 100000 in
set_option maxHeartbeats 16000000 in
theorem written100 (n : ByteArray) (v : Int) (af : Option Addr) (cf : Nat) (es : List Ev) (z : ByteArray) (BB : Nat) (w : World) (hBB : BB ≤ w.heap.size) (hE : Evs BB w af es) (hv : feedV n v es = 0) (hz : Tt.code z.data.toList = true) (hL : Lens w) (hP : Pow w) (h6 : 6 < w.heap.size) :
    Calls Tryz.prog 100 #[.agg #[.string n, .int .i64 v, .slice af es.length cf], .string z] w fun e w' => ∃ g cap, e = .returned (.slice (some ⟨g, 0, none⟩) (feedL n.data.toList v es z.data.toList).length cap) ∧ StrAt w' (some ⟨g, 0, none⟩) ((feedL n.data.toList v es z.data.toList).map str) ∧ w.heap.size ≤ g ∧ g < w'.heap.size ∧ (feedL n.data.toList v es z.data.toList).length ≤ cap ∧ Below w.heap.size w w' := by
  obtain ⟨v0, v1, hlen, hev⟩ := feedV_ok hv
  have hzs := code_size hz; have hns : n.size ≤ 16 := by
    unfold feedV at hv
    split at hv
    · cases hv
    · rename_i hc
      exact code_size (by simpa using hc)
  have HEV := Lib.hid (evsV_each v es none hev)
  have HE := Lib.hid hE; have HL := Lib.hid hL; have HP := Lib.hid hP; obtain ⟨W0, hW0⟩ : ∃ W0, W0 = (w.alloc (.cells #[.string n, .int .i64 v, .slice af es.length cf] 26)).alloc (.cells #[.slice none 0 0] 210) := ⟨_, rfl⟩
  have HS := written_start n v (.slice af es.length cf) w
  rw [← hW0] at HS
  obtain ⟨hF0, hB0, hL0, hS0⟩ := HS; have HL0 := Lib.hid hL0; have HFA0 := Lib.hid hF0; have HF0 := Lib.hid hB0; have hs0 : w.heap.size + 2 ≤ W0.heap.size := by omega
  have HK0 := Lib.hid (But.refl (w.heap.size + 1) (w.heap.size + 2) W0)
  have HS0 := Lib.hid hS0; obtain ⟨m, hmm⟩ : ∃ m, m = es.length := ⟨_, rfl⟩
  have HM := Lib.hid hmm; obtain ⟨b, hb⟩ : ∃ b, b = w.heap.size + 1 := ⟨_, rfl⟩
  obtain ⟨B, hB⟩ : ∃ B, B = w.heap.size + 2 := ⟨_, rfl⟩
  obtain ⟨F, hF⟩ : ∃ F, F = w.heap.size := ⟨_, rfl⟩
  have hFb : F < b := by omega
  have hbB : b < B := by omega
  have hFB : F < B := by omega
  have hBs : B ≤ W0.heap.size := by omega
  have hb6 : 6 < b := by omega
  have hwb : w.heap.size ≤ b := by omega
  have hwB : w.heap.size ≤ B := by omega
  have hwb1 : w.heap.size < b := by omega
  rw [← hF] at HFA0
  rw [← hb, ← hB] at HF0 HK0
  rw [← hmm] at hW0 HFA0 hlen ⊢
  clear hE hL hP hF0 hB0 hL0 hS0 hev hv hmm hB; go_enter Tryz.func100, Tryz.ntmps100
  go_upto_region 2 with (fail)
  rw [← hW0, ← hb, ← hF]; clear hW0 hb hF hs0; obtain ⟨y0, hy0⟩ : ∃ y : List ByteArray, y = [] := ⟨_, rfl⟩
  have HY0 := Lib.hid hy0; have HN0 := Lib.hid (show y0.length ≤ 0 from by rw [hy0]; exact Nat.le_refl _)
  rw [← hy0] at HF0
  clear hy0; go_wp2_with fail
  refine (put_parts2 b B W0.heap.size y0 [⟨#[66, 69, 71, 73, 78, 58, 86, 67, 65, 76, 69, 78, 68, 65, 82]⟩] W0 rfl HF0.out (Nat.le_trans hBs HK0.out.size) (by simp) (by simp only [List.map_cons, List.map_nil, List.flatten_cons, List.flatten_nil, List.append_nil, List.length_cons, List.length_nil]; omega) (by have := HN0.out; omega)).mono ?_
  rintro x W1 ⟨rfl, hf, hk, -⟩; obtain ⟨y1, hy⟩ : ∃ y, y = y0 ++ [str ([66, 69, 71, 73, 78, 58, 86, 67, 65, 76, 69, 78, 68, 65, 82])] := ⟨_, rfl⟩
  have HF1 := Lib.hid (show Buf b B y1 W1 from by rw [hy]; simpa only [List.map_cons, List.map_nil, List.flatten_cons, List.flatten_nil, List.append_nil, List.cons_append, List.nil_append] using hf)
  have HY1 := Lib.hid hy; have HN1 := Lib.hid (show y1.length ≤ 1 from by rw [hy, List.length_append]; have := HN0.out; simp only [List.length_cons, List.length_nil]; omega)
  have HK1 := Lib.hid (HK0.out.trans hk)
  have HFA1 := Lib.hid (HFA0.out.but hk hFB (Nat.ne_of_lt hFb))
  clear hf hy hk HF0 HK0 HFA0; go_wp2_with fail
  refine (put_parts2 b B W1.heap.size y1 [⟨#[86, 69, 82, 83, 73, 79, 78, 58, 50, 46, 48]⟩] W1 rfl HF1.out (Nat.le_trans hBs HK1.out.size) (by simp) (by simp only [List.map_cons, List.map_nil, List.flatten_cons, List.flatten_nil, List.append_nil, List.length_cons, List.length_nil]; omega) (by have := HN1.out; omega)).mono ?_
  rintro x W2 ⟨rfl, hf, hk, -⟩; obtain ⟨y2, hy⟩ : ∃ y, y = y1 ++ [str ([86, 69, 82, 83, 73, 79, 78, 58, 50, 46, 48])] := ⟨_, rfl⟩
  have HF2 := Lib.hid (show Buf b B y2 W2 from by rw [hy]; simpa only [List.map_cons, List.map_nil, List.flatten_cons, List.flatten_nil, List.append_nil, List.cons_append, List.nil_append] using hf)
  have HY2 := Lib.hid hy; have HN2 := Lib.hid (show y2.length ≤ 2 from by rw [hy, List.length_append]; have := HN1.out; simp only [List.length_cons, List.length_nil]; omega)
  have HK2 := Lib.hid (HK1.out.trans hk)
  have HFA2 := Lib.hid (HFA1.out.but hk hFB (Nat.ne_of_lt hFb))
  clear hf hy hk HF1 HK1 HFA1; go_wp2_with fail
  refine (put_parts2 b B W2.heap.size y2 [⟨#[80, 82, 79, 68, 73, 68, 58, 45, 47, 47, 116, 105, 109, 101, 116, 97, 98, 108, 101, 47, 47, 69, 78]⟩] W2 rfl HF2.out (Nat.le_trans hBs HK2.out.size) (by simp) (by simp only [List.map_cons, List.map_nil, List.flatten_cons, List.flatten_nil, List.append_nil, List.length_cons, List.length_nil]; omega) (by have := HN2.out; omega)).mono ?_
  rintro x W3 ⟨rfl, hf, hk, -⟩; obtain ⟨y3, hy⟩ : ∃ y, y = y2 ++ [str ([80, 82, 79, 68, 73, 68, 58, 45, 47, 47, 116, 105, 109, 101, 116, 97, 98, 108, 101, 47, 47, 69, 78])] := ⟨_, rfl⟩
  have HF3 := Lib.hid (show Buf b B y3 W3 from by rw [hy]; simpa only [List.map_cons, List.map_nil, List.flatten_cons, List.flatten_nil, List.append_nil, List.cons_append, List.nil_append] using hf)
  have HY3 := Lib.hid hy; have HN3 := Lib.hid (show y3.length ≤ 3 from by rw [hy, List.length_append]; have := HN2.out; simp only [List.length_cons, List.length_nil]; omega)
  have HK3 := Lib.hid (HK2.out.trans hk)
  have HFA3 := Lib.hid (HFA2.out.but hk hFB (Nat.ne_of_lt hFb))
  clear hf hy hk HF2 HK2 HFA2; have f0 := HFA3.out.c0; have f1 := HFA3.out.c1; have f2 := HFA3.out.c2; go_wp2_with fail
  refine (put_parts2 b B W3.heap.size y3 [⟨#[78, 65, 77, 69, 58]⟩, n] W3 rfl HF3.out (Nat.le_trans hBs HK3.out.size) (by simp) (by simp only [List.map_cons, List.map_nil, List.flatten_cons, List.flatten_nil, List.append_nil, List.length_append, List.length_cons, List.length_nil, ← Lib.size_eq]; omega) (by have := HN3.out; omega)).mono ?_
  rintro x W4 ⟨rfl, hf, hk, -⟩; obtain ⟨y4, hy⟩ : ∃ y, y = y3 ++ [str ([78, 65, 77, 69, 58] ++ n.data.toList)] := ⟨_, rfl⟩
  have HF4 := Lib.hid (show Buf b B y4 W4 from by rw [hy]; simpa only [List.map_cons, List.map_nil, List.flatten_cons, List.flatten_nil, List.append_nil, List.cons_append, List.nil_append] using hf)
  have HY4 := Lib.hid hy; have HN4 := Lib.hid (show y4.length ≤ 4 from by rw [hy, List.length_append]; have := HN3.out; simp only [List.length_cons, List.length_nil]; omega)
  have HK4 := Lib.hid (HK3.out.trans hk)
  have HFA4 := Lib.hid (HFA3.out.but hk hFB (Nat.ne_of_lt hFb))
  clear hf hy hk HF3 HK3 HFA3 f0 f1 f2; have f0 := HFA4.out.c0; have f1 := HFA4.out.c1; have f2 := HFA4.out.c2; go_wp2_with fail
  refine (itoa136 v W4 (HP.out.below h6 (HL0.out.trans (HK4.out.below (by omega) (by omega)))) (by omega) (by omega)).mono ?_
  rintro x W5 ⟨rfl, hb⟩; obtain ⟨t5, ht⟩ : ∃ t, t = (⟨(Lib.decDigits v.toNat).toArray⟩ : ByteArray) := ⟨_, rfl⟩
  have zt5 : t5.size ≤ 5 := by rw [ht, size_mk]; exact Tt.dec_len 4 _ (by omega)
  rw [← ht]; have HT5 := Lib.hid (show t5.data.toList = Lib.decDigits v.toNat from by rw [ht])
  clear ht f0 f1 f2; have HF5 := Lib.hid (HF4.out.kept hb)
  have HK5 := Lib.hid (HK4.out.trans (But.of_below (hb.mono (Nat.le_trans hBs HK4.out.size))))
  have HFA5 := Lib.hid (HFA4.out.but (But.of_below (b := b) (hb.mono (Nat.le_trans hBs HK4.out.size))) hFB (Nat.ne_of_lt hFb))
  clear hb HF4 HK4 HFA4; go_wp2_with fail
  refine (put_parts2 b B W5.heap.size y4 [⟨#[82, 69, 86, 73, 83, 73, 79, 78, 58]⟩, t5] W5 rfl HF5.out (Nat.le_trans hBs HK5.out.size) (by simp) (by simp only [List.map_cons, List.map_nil, List.flatten_cons, List.flatten_nil, List.append_nil, List.length_append, List.length_cons, List.length_nil, ← Lib.size_eq]; omega) (by have := HN4.out; omega)).mono ?_
  rintro x W6 ⟨rfl, hf, hk, -⟩; obtain ⟨y6, hy⟩ : ∃ y, y = y4 ++ [str ([82, 69, 86, 73, 83, 73, 79, 78, 58] ++ Lib.decDigits v.toNat)] := ⟨_, rfl⟩
  have HF6 := Lib.hid (show Buf b B y6 W6 from by rw [hy]; simpa only [List.map_cons, List.map_nil, List.flatten_cons, List.flatten_nil, List.append_nil, List.cons_append, List.nil_append, HT5.out] using hf)
  have HY6 := Lib.hid hy; have HN6 := Lib.hid (show y6.length ≤ 5 from by rw [hy, List.length_append]; have := HN4.out; simp only [List.length_cons, List.length_nil]; omega)
  have HK6 := Lib.hid (HK5.out.trans hk)
  have HFA6 := Lib.hid (HFA5.out.but hk hFB (Nat.ne_of_lt hFb))
  clear hf hy hk HF5 HK5 HFA5; have HYA := Lib.hid (show y6 = (headL n.data.toList v).map str from by rw [HY6.out, HY4.out, HY3.out, HY2.out, HY1.out, HY0.out]; rfl)
  clear HY6 HY4 HY3 HY2 HY1 HY0; have f0 := HFA6.out.c0; have f1 := HFA6.out.c1; have f2 := HFA6.out.c2; go_wp2_with fail
  clear f0 f1 f2; go_loopw [33] (fun iv wr => ∃ (i : Nat) (y : List ByteArray), iv = .int .i64 i ∧ i ≤ m ∧ Hid (y = (headL n.data.toList v ++ (es.take i).flatMap fun e => evLines e z.data.toList).map str) ∧ Hid (Buf b B y wr) ∧ Hid (But b B W0 wr)) (fun iv _ => m - (intOf iv).toNat)
  case atStart => exact ⟨0, y6, rfl, Nat.zero_le _, Lib.hid (by rw [HYA.out]; simp), HF6, HK6⟩
  case round =>
    clear HYA HF6 HK6 HFA6; obtain ⟨i, y, rfl, hi, HY, HF, HK⟩ := hrel; have HN := Lib.hid (show y.length ≤ 4000 from by
      rw [HY.out, List.length_map, List.length_append]
      have h1 := flat_len z.data.toList (es.take i)
      have h2 : (headL n.data.toList v).length = 5 := rfl
      rw [List.length_take] at h1
      omega)
    have hsr := Nat.le_trans hBs HK.out.size
    have HWr := Lib.hid (show Below w.heap.size w wr from HL0.out.trans (HK.out.below (by omega) (by omega)))
    by_cases hlt : i < m
    · have hx : i < es.length := by rw [← HM.out]; exact hlt
      have hlti : (i : Int) < m := by omega
      obtain ⟨bo, oo, hao, hbo, hcell⟩ := HE.out.form (by omega)
      subst hao; obtain ⟨e, hee⟩ : ∃ e, e = es[i] := ⟨_, rfl⟩
      have hge : es[i]? = some e := by rw [hee]; exact List.getElem?_eq_getElem hx
      obtain ⟨hE1, x, x', hC, hX, hX'⟩ := hcell i e hge
      have hck := HEV.out e (by rw [hee]; exact List.getElem_mem hx)
      have HT := Lib.hid (show es.take (i + 1) = es.take i ++ [e] from by rw [List.take_succ_eq_append_getElem hx, hee])
      obtain ⟨c0, c1, c2, c3, c4, c5, c6, c7, c8, c9, c10, c11, c12⟩ := hC.below (w' := wr) hbo (HWr.out.mono hBB)
      obtain ⟨ax, cx, hxx, hI⟩ := hX; obtain ⟨ay, cy, hyy, hI'⟩ := hX'; subst hxx hyy
      have HI := Lib.hid (hI.below (HWr.out.mono hBB))
      have HI' := Lib.hid (hI'.below (HWr.out.mono hBB))
      have HCK := Lib.hid hck; have HUS := Lib.hid (right_size hck.1)
      clear hcell hee hge hE1 hC hI hI' hck hbo; go_upto_region 10 with (fail)
      obtain ⟨W, hW⟩ : ∃ W, W = wr.alloc (.cells (evCells e (.slice ax e.days.ex.length cx) (.slice ay e.days.xt.length cy)) 82) := ⟨_, rfl⟩
      obtain ⟨g, hg⟩ : ∃ g, g = wr.heap.size := ⟨_, rfl⟩
      have HBX := Lib.hid (show Below wr.heap.size wr W from by rw [hW]; exact below_box wr _)
      have HGB := Lib.hid (show Blk g (evCells e (.slice ax e.days.ex.length cx) (.slice ay e.days.xt.length cy)) 82 W from by rw [hW, hg]; exact Blk.new wr _ 82)
      unfold evCells at hW
      rw [← hW, ← hg]; clear hW hg c0 c1 c2 c3 c4 c5 c6 c7 c8 c9 c10 c11 c12; obtain ⟨c0, c1, c2, c3, c4, c5, c6, c7, c8, c9, c10, c11, c12⟩ := EvBox.c (e := e) (v := .slice ax e.days.ex.length cx) (v' := .slice ay e.days.xt.length cy) HGB.out
      simp only [Nat.zero_add] at c0 c1 c2 c3 c4 c5 c6 c7 c8 c9 c10 c11 c12
      have hBW := Nat.le_trans hsr HBX.out.size
      have HWW := Lib.hid (show Below w.heap.size w W from HWr.out.trans (HBX.out.mono (by omega)))
      have HC : Hid (Calls Tryz.prog 173 #[.pointer (some ⟨b, 0, none⟩), evVal e (.slice ax e.days.ex.length cx) (.slice ay e.days.xt.length cy), .string z] W fun x w' => x = .returned (.tuple #[]) ∧ Buf b B (y ++ (evLines e z.data.toList).map str) w' ∧ But b B W w' ∧ Keep9 b W w') := Lib.hid (event173 b B y e v ax ay cx cy z W (HF.out.kept HBX.out) hBW hb6 (by have := HN.out; omega) HCK.out.2 (by omega) HUS.out (by omega) ((HI.out.below (HBX.out.mono (by omega))).mono (by omega)) ((HI'.out.below (HBX.out.mono (by omega))).mono (by omega)) (HL.out.below (by omega) HWW.out) (HP.out.below h6 HWW.out))
      unfold evVal evCells at HC
      go_wp2_with fail
      refine HC.out.mono ?_
      rintro x W9 ⟨rfl, hf, hk, -⟩; have HF9 := Lib.hid hf; have HK9 := Lib.hid (HK.out.trans ((But.of_below (b := b) (HBX.out.mono hsr)).trans hk))
      clear hf hk HC c0 c1 c2 c3 c4 c5 c6 c7 c8 c9 c10 c11 c12; go_wp2_with fail
      go_roundw
      case rel => exact ⟨i + 1, y ++ (evLines e z.data.toList).map str, by go_num, by omega, Lib.hid (by rw [HY.out, HT.out, List.flatMap_append, List.flatMap_cons, List.flatMap_nil, List.append_nil, ← List.append_assoc, List.map_append (l₁ := _ ++ _)]), HF9, HK9⟩
      case measure => simp [intOf]; omega
    · have hlti : ¬ (i : Int) < m := by omega
      have HTA := Lib.hid (show es.take i = es from List.take_of_length_le (by rw [← HM.out]; omega))
      obtain ⟨yr, hyr⟩ : ∃ q, q = y := ⟨_, rfl⟩
      go_wp2_with fail
      refine (put_parts2 b B wr.heap.size y [⟨#[69, 78, 68, 58, 86, 67, 65, 76, 69, 78, 68, 65, 82]⟩] wr rfl HF.out hsr (by simp) (by simp only [List.map_cons, List.map_nil, List.flatten_cons, List.flatten_nil, List.append_nil, List.length_cons, List.length_nil]; omega) (by have := HN.out; omega)).mono ?_
      rintro x W9 ⟨rfl, hf, hk, -⟩; have HKE := Lib.hid (HK.out.trans hk)
      have HYE := Lib.hid (show y ++ [str [69, 78, 68, 58, 86, 67, 65, 76, 69, 78, 68, 65, 82]] = (feedL n.data.toList v es z.data.toList).map str from by rw [HY.out, HTA.out]; unfold feedL; rw [List.map_append (l₂ := [_])]; rfl)
      have HFE := Lib.hid (show Buf b B ((feedL n.data.toList v es z.data.toList).map str) W9 from by rw [← HYE.out]; simpa only [List.map_cons, List.map_nil, List.flatten_cons, List.flatten_nil, List.append_nil] using hf)
      clear hf hk hyr; obtain ⟨u, h6, o6⟩ := HFE.out.ex
      have cb : W9.cell? ⟨b, 0, none⟩ = some u := by rw [Lib.cell_of_heap h6]; rfl
      have hfl : 0 < (feedL n.data.toList v es z.data.toList).length := by unfold feedL; rw [List.length_append]; simp
      rw [List.length_map] at o6
      obtain ⟨g, cap, hu, hcap⟩ : ∃ g cap, u = .slice (some ⟨g, 0, none⟩) (feedL n.data.toList v es z.data.toList).length cap ∧ (feedL n.data.toList v es z.data.toList).length ≤ cap := by
        rcases o6.2 with ⟨_, h0⟩ | ⟨g, cap, cur, hv, _, _, h5, _⟩
        · omega
        · exact ⟨g, cap, hv, by omega⟩
      rw [hu] at cb o6
      have HO := Lib.hid o6; have HCAP := Lib.hid hcap; clear hu h6 o6 hfl hcap; go_wp2_with fail
      go_ret; refine ⟨g, cap, rfl, ?_, ?_, (HO.out.lt g rfl).2, HCAP.out, HL0.out.trans (HKE.out.below (by omega) (by omega))⟩
      · intro j x hx; exact ⟨_, rfl, HO.out.cells (g := g) rfl j (.string x) (by rw [List.getElem?_map, hx]; rfl)⟩
      · have := (HO.out.lt g rfl).1; omega
end Go.Proofs.YtageielcdebjlaaGreatDoor
