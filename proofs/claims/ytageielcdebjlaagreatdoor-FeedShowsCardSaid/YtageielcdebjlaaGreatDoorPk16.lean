/- Numbers as decimal texts: strconv.Itoa, both digits, the reference's digits and decimal at the widths that are used; the text of a date. A buffer's put once more: what else lies in memory is kept, the buffer's own row apart. Plain facts on the reference's Put: an event laid into a list in the order of the identifiers. No program in sight. Condition: none. Plain facts on the order of identifiers, and on valid lists of events. No program in sight. Condition: none. subscriber.find with slices.BinarySearchFunc: its contract. The program's weekdays (function 257): exact. The reference's parser of rules, in plain words; its number (263). Days told as a series, in plain words; a series in a box whose two lists grow. The parser on any line: days of any numbers, numbers of any text, what is taken from any line. Dates and rules of any text: the program's recurrence.date and recurrence.Parse: some series without lists, and a code. -/
import Derived.Test.YtageielcdebjlaaGreatDoorPk15
import Derived.Test.YtageielcdebjlaaGreatDoorUidAll
import Derived.Lib.AppendIntMem
import Derived.Test.YtageielcdebjlaaGreatDoorParseAll
import Derived.Test.YtageielcdebjlaaGreatDoorPk9
import Derived.Test.YtageielcdebjlaaGreatDoorPk14
import Derived.Sort.Walk0
import Derived.Test.YtageielcdebjlaaGreatDoorPk11
import Derived.Test.YtageielcdebjlaaGreatDoorDaysAll
import Derived.BigQuiet
import Derived.Test.YtageielcdebjlaaGreatDoorShelf
import Derived.Shelf.Strconv.AtoiAll
namespace Tt
open Go.Lib (decDigits decDigits_one decDigits_two)
def d2 (n : Nat) : List UInt8 := [UInt8.ofNat (48 + n / 10), UInt8.ofNat (48 + n % 10)]
def d4 (n : Nat) : List UInt8 := [UInt8.ofNat (48 + n / 1000), UInt8.ofNat (48 + n / 100 % 10), UInt8.ofNat (48 + n / 10 % 10), UInt8.ofNat (48 + n % 10)]
theorem dec_step {n : Nat} (h : ¬ n < 10) : decDigits n = decDigits (n / 10) ++ [UInt8.ofNat (48 + n % 10)] := by rw [decDigits.eq_def n, dif_neg h]
theorem decim_1 (n : Nat) : decim n 1 [] = decDigits n := by rw [decim_one, List.append_nil]
theorem dec_len : ∀ (k n : Nat), n < 10 ^ (k + 1) → (decDigits n).length ≤ k + 1
  | 0, n, h => by rw [decDigits_one (by simpa using h)]; simp
  | k + 1, n, h => by
    by_cases h1 : n < 10
    · rw [decDigits_one h1]; simp
    · rw [dec_step h1, List.length_append]
      have := dec_len k (n / 10) (by rw [Nat.div_lt_iff_lt_mul (by omega)]; rw [Nat.pow_succ] at h; exact h)
      simp; omega
end Tt
namespace Go.Proofs.YtageielcdebjlaaGreatDoor
open Go.RowKit

/-- The library's table of powers as it is laid. -/
def Pow (w : World) : Prop := ∃ t fr, w.heap[6]? = some (.cells (Lib.pow10Tab.map fun z => Value.int .u64 z).toArray t fr)
theorem Pow.below {B : Nat} {w w' : World} (h : Pow w) (hB : 6 < B) (hb : Below B w w') : Pow w' := by
  obtain ⟨t, fr, h⟩ := h; exact ⟨t, fr, (hb.block 6 hB).trans h⟩
theorem itoa136 (n : Int) (w : World) (hP : Pow w) (h0 : 0 ≤ n) (h1 : n ≤ 4611686018427387903) : Calls Tryz.prog 136 #[.int .i64 n] w fun e w' => e = .returned (.string ⟨(Lib.decDigits n.toNat).toArray⟩) ∧ Below w.heap.size w w' := by
  refine (Any.strconv_Itoa Tryz.laysM171 n (by omega) (by omega) w ?_).mono ?_
  · obtain ⟨t, fr, h⟩ := hP; unfold Lib.TabIs World.var?
    generalize hn : Program.globalNamed Tryz.prog _ = o
    have ho : o = some 6 := hn.symm.trans (by kernel_rfl)
    subst ho; simp [h]
  · rintro e w' ⟨rfl, k, os, rfl⟩; refine ⟨ret_str ?_, Lib.below_grow _ _ (Nat.le_refl _) _ _⟩
    unfold Lib.itoa
    rw [if_neg (by omega)]
end Go.Proofs.YtageielcdebjlaaGreatDoor
namespace Go.Proofs.YtageielcdebjlaaGreatDoor
open Go.RowKit

/-- What is no row of texts, and not the buffer, is kept. -/
def Keep9 (b : Nat) (w w' : World) : Prop := ∀ g cs ty, ty ≠ 9 → g ≠ b → Blk g cs ty w → Blk g cs ty w'
theorem Keep9.refl (b : Nat) (w : World) : Keep9 b w w := fun _ _ _ _ _ h => h
theorem Keep9.trans {b : Nat} {w w' w'' : World} (h : Keep9 b w w') (k : Keep9 b w' w'') : Keep9 b w w'' := fun g cs ty h1 h2 h3 => k g cs ty h1 h2 (h g cs ty h1 h2 h3)
theorem Keep9.made {b : Nat} {w w' : World} (h : Below w.heap.size w w') : Keep9 b w w' := fun _ _ _ _ _ h3 => h3.below h h3.lt
end Go.Proofs.YtageielcdebjlaaGreatDoor
namespace Go.Proofs.YtageielcdebjlaaGreatDoor
open Go.RowKit

/-- Is an identifier ahead of another? -/
def lessU (a b : ByteArray) : Bool := Op.bytesLess a.toList b.toList

end Go.Proofs.YtageielcdebjlaaGreatDoor
namespace Go.Proofs.YtageielcdebjlaaGreatDoor
open Go.RowKit

theorem lessU_iff (a b : ByteArray) : lessU a b = true ↔ a.toList < b.toList := by unfold lessU; rw [bytesLess_eq]; simp
theorem lessU_trans {a b c : ByteArray} (h : lessU a b = true) (k : lessU b c = true) : lessU a c = true := by
  rw [lessU_iff] at *; exact List.lt_trans h k
/-- Do the identifiers ascend? -/
def UpU (es : List Ev) : Prop := ∀ (i j : Nat) (a b : Ev), i < j → es[i]? = some a → es[j]? = some b → lessU a.uid b.uid = true
/-- Where the identifiers ascend, the events ahead of an identifier come first. -/
theorem UpU.first {es : List Ev} (h : UpU es) {i j : Nat} {a b : Ev} {u : ByteArray} (hij : i ≤ j) (ha : es[i]? = some a) (hb : es[j]? = some b) (hl : lessU b.uid u = true) : lessU a.uid u = true := by
  rcases Nat.lt_or_eq_of_le hij with k | k
  · exact lessU_trans (h i j a b k ha hb) hl
  · subst k; rw [ha] at hb
    cases hb
    exact hl
end Go.Proofs.YtageielcdebjlaaGreatDoor
namespace Go.Proofs.YtageielcdebjlaaGreatDoor
open Go.RowKit

/-- How an identifier compares with another. -/
def cmpU (a b : ByteArray) : Int := Lib.compareBytes a.data.toList b.data.toList

/-- Is a given event ahead of the place sought? -/
def ahead (es : List Ev) (u : ByteArray) (k : Nat) : Prop := ∃ e, es[k]? = some e ∧ cmpU e.uid u < 0
end Go.Proofs.YtageielcdebjlaaGreatDoor
namespace Tt
open Go Go.Lib
theorem wrap_pow {k : Nat} (h : k < 7) : RowKit.wrap64 (2 ^ k) = 2 ^ k := by
  match k, h with
  | 0, _ | 1, _ | 2, _ | 3, _ | 4, _ | 5, _ | 6, _ => (unfold RowKit.wrap64; omega)
end Tt
namespace Go.Proofs.YtageielcdebjlaaGreatDoor
open Go.RowKit

end Go.Proofs.YtageielcdebjlaaGreatDoor
namespace Tt
open Go
theorem or_any0 : ∀ k : Nat, k < 7 → ∀ v : Nat, v < 128 → bits BinOp.or IntKind.i64 (v : Int) (2 ^ k : Int) = ((v ||| 2 ^ k : Nat) : Int) := by decide +kernel
theorem or_any (k : Nat) (h : k < 7) (v : Nat) (hv : v < 128) : bits BinOp.or IntKind.i64 (v : Int) (RowKit.wrap64 (2 ^ k)) = ((v ||| 2 ^ k : Nat) : Int) := by rw [wrap_pow h, or_any0 k h v hv]
theorem or_lt : ∀ k : Nat, k < 7 → ∀ v : Nat, v < 128 → v ||| 2 ^ k < 128 := by decide +kernel
end Tt
namespace Go.Proofs.YtageielcdebjlaaGreatDoor
open Go.RowKit

end Go.Proofs.YtageielcdebjlaaGreatDoor
namespace Tt
def fstD (ds : List Int) : Int := ds.headD 0
def lstD (ds : List Int) : Int := ds.getLastD 0
def spanN (ds : List Int) : Nat := (lstD ds - fstD ds + 1).toNat
/-- Days that may be told as a series. -/
structure DsOk (ds : List Int) : Prop where
  ne : ds ≠ []
  d : ∀ x ∈ ds, 0 ≤ x ∧ x ≤ 36524
  le : fstD ds ≤ lstD ds
  sp : lstD ds ≤ fstD ds + 140
  len : ds.length ≤ 1000000
theorem DsOk.pos {ds : List Int} (h : DsOk ds) : 0 < ds.length := List.length_pos_iff.2 h.ne
theorem DsOk.first {ds : List Int} (h : DsOk ds) : ds[0]? = some (fstD ds) := by
  have := h.ne
  cases ds with
  | nil => exact absurd rfl this
  | cons a r => rfl
theorem DsOk.last {ds : List Int} (h : DsOk ds) : ds[ds.length - 1]? = some (lstD ds) := by
  have hn := h.ne; unfold lstD
  rw [List.getLastD_eq_getLast?, List.getLast?_eq_getElem?]
  have h1 : ds.length - 1 < ds.length := by have := h.pos; omega
  rw [List.getElem?_eq_getElem h1]; rfl
theorem DsOk.bd {ds : List Int} (h : DsOk ds) : 0 ≤ fstD ds ∧ fstD ds ≤ 36524 ∧ 0 ≤ lstD ds ∧ lstD ds ≤ 36524 := by
  have h1 := h.d _ (List.mem_of_getElem? h.first)
  have h2 := h.d _ (List.mem_of_getElem? h.last)
  omega
theorem DsOk.span {ds : List Int} (h : DsOk ds) : ((spanN ds : Nat) : Int) = lstD ds - fstD ds + 1 ∧ spanN ds ≤ 141 := by
  have h1 := h.le; have h2 := h.sp; unfold spanN; omega
/-- Does a day lie on a weekday, in a week that counts? -/
def onB (ds : List Int) (e w d : Int) : Bool := decide (wk d = w) && cnt (fstD ds) e d
def hitK (ds : List Int) (e w : Int) : Nat → Int
  | 0 => 0
  | k + 1 => hitK ds e w k + (if onB ds e w (fstD ds + k) = true ∧ fstD ds + k ∈ ds then 1 else 0)
def missK (ds : List Int) (e w : Int) : Nat → Int
  | 0 => 0
  | k + 1 => missK ds e w k + (if onB ds e w (fstD ds + k) = true ∧ ¬ fstD ds + k ∈ ds then 1 else 0)
theorem hitK_bd (ds : List Int) (e w : Int) : ∀ k : Nat, 0 ≤ hitK ds e w k ∧ hitK ds e w k ≤ k ∧ 0 ≤ missK ds e w k ∧ missK ds e w k ≤ k
  | 0 => ⟨Int.le_refl _, Int.le_refl _, Int.le_refl _, Int.le_refl _⟩
  | k + 1 => by
    have ih := hitK_bd ds e w k; rw [hitK, missK]
    split <;> split <;> omega
/-- The weekdays ahead of j on which more days are there than not. -/
def wdK (ds : List Int) (e : Int) : Nat → Nat
  | 0 => 0
  | j + 1 => if missK ds e j (spanN ds) < hitK ds e j (spanN ds) then wdK ds e j ||| 2 ^ j else wdK ds e j
theorem wdK_lt (ds : List Int) (e : Int) : ∀ j, j ≤ 7 → wdK ds e j < 128
  | 0, _ => by show 0 < 128; decide
  | j + 1, h => by
    have ih := wdK_lt ds e j (by omega)
    rw [wdK]
    split
    · exact or_lt j (by omega) _ ih
    · exact ih
def exK (ds : List Int) (s : Ser) : Nat → List Int
  | 0 => []
  | k + 1 => if regB s (s.first + k) = true ∧ ¬ s.first + k ∈ ds then exK ds s k ++ [s.first + k] else exK ds s k
def xtK (ds : List Int) (s : Ser) : Nat → List Int
  | 0 => []
  | k + 1 => if regB s (s.first + k) = false ∧ s.first + k ∈ ds then xtK ds s k ++ [s.first + k] else xtK ds s k
theorem exK_len (ds : List Int) (s : Ser) : ∀ k, (exK ds s k).length ≤ k ∧ (xtK ds s k).length ≤ k
  | 0 => ⟨Nat.le_refl _, Nat.le_refl _⟩
  | k + 1 => by
    have ih := exK_len ds s k; rw [exK, xtK]
    constructor
    · split
      · rw [List.length_append]; simp; omega
      · omega
    · split
      · rw [List.length_append]; simp; omega
      · omega
/-- A series without lists, over the days. -/
def headS (ds : List Int) (e m : Int) : Ser := ⟨fstD ds, lstD ds, e, m, [], []⟩
/-- .. with the exceptions and the extra days ahead of the k-th day. -/
def serK (ds : List Int) (e m : Int) (k : Nat) : Ser := ⟨fstD ds, lstD ds, e, m, exK ds (headS ds e m) k, xtK ds (headS ds e m) k⟩
/-- The series of days, for a number of weeks. -/
def withV (ds : List Int) (e : Int) : Ser := serK ds e (wdK ds e 7) (spanN ds)
theorem bit_pow : ∀ w : Nat, w < 7 → ∀ k : Nat, k < 7 → bit ((2 ^ w : Nat) : Int) (k : Int) = decide ((k : Int) = (w : Int)) := by decide
end Tt
namespace Go.Proofs.YtageielcdebjlaaGreatDoor
open Go.RowKit

/-- A series in box S; its lists lie in rows of one's own, apart. -/
structure SerM (S lo : Nat) (s : Tt.Ser) (v v' : Value) (w : World) : Prop where
  box : Blk S #[.int .i64 s.first, .int .i64 s.last, .int .i64 s.every, .int .i64 s.wd, v, v'] 80 w
  ex : RowI lo w v s.ex
  xt : RowI lo w v' s.xt
  ap : v.ownBlock = none ∨ v'.ownBlock = none ∨ v.ownBlock ≠ v'.ownBlock
theorem ap_one {a b : Option Nat} (h : a = none ∨ b = none ∨ a ≠ b) : b = none ∨ b ≠ a := by
  cases a with
  | none => cases b with
    | none => exact .inl rfl
    | some y => exact .inr (fun e => by cases e)
  | some x => rcases h with h | h | h
              · cases h
              · exact .inl h
              · exact .inr (fun e => h e.symm)
theorem ap_two {a b : Option Nat} (h : a = none ∨ b = none ∨ a ≠ b) : a = none ∨ a ≠ b := by
  rcases h with h | h | h
  · exact .inl h
  · cases a with
    | none => exact .inl rfl
    | some x => exact .inr (fun e => by rw [h] at e; cases e)
  · exact .inr h
section
variable {S lo : Nat} {s : Tt.Ser} {v v' : Value} {w : World}
theorem SerM.made (h : SerM S lo s v v' w) {w' : World} (hb : Below w.heap.size w w') : SerM S lo s v v' w' :=
  ⟨h.box.below hb h.box.lt, ownsRow_below h.ex hb, ownsRow_below h.xt hb, h.ap⟩
theorem own_lt {e k n : Nat} {xs : List Value} (h : w.ownsRow lo e k v n xs) : ∀ g, v.ownBlock = some g → g < w.heap.size := fun g hg => (h.lt g hg).2
theorem SerM.addX (h : SerM S lo s v v' w) {d : Int} {v2 : Value} {x : World} (hown : x.ownsRow lo 3 1 v2 (s.ex.length + 1) (s.ex.map (Value.int .i64) ++ [.int .i64 d])) (hg : w.grownBy x v.ownBlock) (hat : v2.ownBlock = v.ownBlock ∨ v2.ownBlock = some w.heap.size) :
    SerM S lo { s with ex := s.ex ++ [d] } v2 v' (x.setCell ⟨S, 4, none⟩ v2) := by
  have hS : Blk S #[.int .i64 s.first, .int .i64 s.last, .int .i64 s.every, .int .i64 s.wd, v, v'] 80 x := h.box.grown h.ex hg (by decide)
  have hx : RowI lo x v2 (s.ex ++ [d]) := RowI.snoc hown
  have hy : RowI lo x v' s.xt := World.ownsRow.kept h.xt hg (ap_one h.ap)
  refine ⟨hS.set 4 v2, row_set hx hS (by decide) 4 v2, row_set hy hS (by decide) 4 v2, ?_⟩
  rcases hat with e | e
  · rw [e]; exact h.ap
  · cases hv : v'.ownBlock with
    | none => exact .inr (.inl rfl)
    | some g => refine .inr (.inr ?_); rw [e]; intro hh; have := own_lt h.xt g hv; cases hh; omega
theorem SerM.addY (h : SerM S lo s v v' w) {d : Int} {v2 : Value} {x : World} (hown : x.ownsRow lo 3 1 v2 (s.xt.length + 1) (s.xt.map (Value.int .i64) ++ [.int .i64 d])) (hg : w.grownBy x v'.ownBlock) (hat : v2.ownBlock = v'.ownBlock ∨ v2.ownBlock = some w.heap.size) :
    SerM S lo { s with xt := s.xt ++ [d] } v v2 (x.setCell ⟨S, 5, none⟩ v2) := by
  have hS : Blk S #[.int .i64 s.first, .int .i64 s.last, .int .i64 s.every, .int .i64 s.wd, v, v'] 80 x := h.box.grown h.xt hg (by decide)
  have hx : RowI lo x v2 (s.xt ++ [d]) := RowI.snoc hown
  have hy : RowI lo x v s.ex := World.ownsRow.kept h.ex hg (ap_two h.ap)
  refine ⟨hS.set 5 v2, row_set hy hS (by decide) 5 v2, row_set hx hS (by decide) 5 v2, ?_⟩
  rcases hat with e | e
  · rw [e]; exact h.ap
  · cases hv : v.ownBlock with
    | none => exact .inl rfl
    | some g => refine .inr (.inr ?_); rw [e]; intro hh; have := own_lt h.ex g hv; cases hh; omega
end
end Go.Proofs.YtageielcdebjlaaGreatDoor
namespace Go.Proofs.YtageielcdebjlaaGreatDoor
open Go.RowKit

/-- The variables of the library that errors of numbers are made of. -/
def Errs (w : World) : Prop := (∃ ev, w.cell? ⟨1, 0, none⟩ = some ev ∧ (ev = .nilIface ∨ ∃ te pe, ev = .iface te pe)) ∧ ∃ ev, w.cell? ⟨2, 0, none⟩ = some ev ∧ (ev = .nilIface ∨ ∃ te pe, ev = .iface te pe)
theorem Errs.below {B : Nat} {w w' : World} (h : Errs w) (hB : 2 < B) (hb : Below B w w') : Errs w' := by
  obtain ⟨⟨a, h1, h2⟩, b, h3, h4⟩ := h
  exact ⟨⟨a, (hb.cell (p := ⟨1, 0, none⟩) (show 1 < B by omega)).trans h1, h2⟩, b, (hb.cell (p := ⟨2, 0, none⟩) hB).trans h3, h4⟩
/-- What is left of lines of which some may have been taken. -/
structure Left (M : Nat) (xs ys : List ByteArray) : Prop where
  le : ys.length ≤ xs.length
  sz : (∀ x ∈ xs, x.size ≤ M) → ∀ y ∈ ys, y.size ≤ M
theorem Left.refl (M : Nat) (xs : List ByteArray) : Left M xs xs := ⟨Nat.le_refl _, fun h => h⟩
theorem Left.trans {M : Nat} {xs ys zs : List ByteArray} (h : Left M xs ys) (k : Left M ys zs) : Left M xs zs := ⟨Nat.le_trans k.le h.le, fun hx => k.sz (h.sz hx)⟩
theorem Left.tail (M : Nat) (x : ByteArray) (xs : List ByteArray) : Left M (x :: xs) xs := ⟨Nat.le_succ _, fun h y hy => h y (List.mem_cons_of_mem _ hy)⟩
end Go.Proofs.YtageielcdebjlaaGreatDoor
namespace Go.Proofs.YtageielcdebjlaaGreatDoor
open Go.RowKit

theorem fill6R {g : Nat} {cs : Array Value} {w0 w : World} (h : Blk g cs 80 w) (hc : cs.size = 6) (hb : Below w0.heap.size w0 w) (hg : w0.heap.size ≤ g) (u0 u1 u2 u3 u4 u5 : Value) : ∃ Y, Y = ((((((w.setCell ⟨g, 0, none⟩ u0).setCell ⟨g, 1, none⟩ u1).setCell ⟨g, 2, none⟩ u2).setCell ⟨g, 3, none⟩ u3).setCell ⟨g, 4, none⟩ u4).setCell ⟨g, 5, none⟩ u5) ∧ Blk g #[u0, u1, u2, u3, u4, u5] 80 Y ∧ Below w0.heap.size w0 Y := by
  refine ⟨_, rfl, ?_, ?_⟩
  · obtain ⟨l⟩ := cs; match l, hc with
    | [a0, a1, a2, a3, a4, a5], _ => exact (((((h.set 0 u0).set 1 u1).set 2 u2).set 3 u3).set 4 u4).set 5 u5
  · have q : ∀ (W : World) (i : Nat) (u : Value), Below w0.heap.size w0 W → Below w0.heap.size w0 (W.setCell ⟨g, i, none⟩ u) := fun W i u h => h.setCell hg _
    exact q _ _ _ (q _ _ _ (q _ _ _ (q _ _ _ (q _ _ _ (q _ _ _ hb)))))
end Go.Proofs.YtageielcdebjlaaGreatDoor
