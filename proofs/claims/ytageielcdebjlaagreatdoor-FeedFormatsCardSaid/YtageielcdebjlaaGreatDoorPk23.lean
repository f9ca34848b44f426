/- The parser's event: what is kept from line to line. Numbers written and read again. The parser's event: numbers, texts and days of a line. -/
import Derived.Test.YtageielcdebjlaaGreatDoorRuleP
import Derived.Test.YtageielcdebjlaaGreatDoorDaysP
import Derived.Test.YtageielcdebjlaaGreatDoorPk21
import Derived.Test.YtageielcdebjlaaGreatDoorEvL
import Derived.Test.YtageielcdebjlaaGreatDoorPk14
namespace Go.Proofs.YtageielcdebjlaaGreatDoor
open Go.RowKit

/-- The parser in block b has these lines left and is not bad; G and R are boxes of an event. -/
structure EvSt (b g G R : Nat) (xs : List ByteArray) (z : ByteArray) (cs rs : Array Value) (w0 w : World) : Prop where
  par : ∃ o cap, Par b g o cap xs z false w
  ev : Blk G cs 82 w
  res : Blk R rs 82 w
  but : But b w0.heap.size w0 w

theorem EvSt.only {b g G R : Nat} {xs ys : List ByteArray} {z : ByteArray} {cs rs : Array Value} {w0 w w' : World} (h : EvSt b g G R xs z cs rs w0 w) (hG : G ≠ b) (hR : R ≠ b) (hp : ∃ o cap, Par b g o cap ys z false w') (ho : Only b w w') : EvSt b g G R ys z cs rs w0 w' :=
  ⟨hp, h.ev.only ho hG, h.res.only ho hR, h.but.trans ho.but⟩
theorem EvSt.step {b g G R : Nat} {xs : List ByteArray} {z : ByteArray} {cs rs : Array Value} {w0 w w' : World} (h : EvSt b g G R xs z cs rs w0 w) (hG : G ≠ b) (hR : R ≠ b) (hp : ∃ o cap, Par b g o cap xs z false w') (ho : But b w.heap.size w w') : EvSt b g G R xs z cs rs w0 w' :=
  ⟨hp, h.ev.but ho hG, h.res.but ho hR, but_then h.but ho h.but.size⟩
theorem Par.set {b g o cap : Nat} {xs : List ByteArray} {z : ByteArray} {bad : Bool} {w : World} (h : Par b g o cap xs z bad w) {G : Nat} (hb : G ≠ b) (hg : G ≠ g) (i : Nat) (u : Value) : Par b g o cap xs z bad (w.setCell ⟨G, i, none⟩ u) :=
  h.other (by simp [World.setCell, Array.getElem?_modify, hb]) (by simp [World.setCell, Array.getElem?_modify, hg])
theorem EvSt.set {b g G R : Nat} {xs : List ByteArray} {z : ByteArray} {cs rs : Array Value} {w0 w : World} (h : EvSt b g G R xs z cs rs w0 w) (hG : G ≠ b) (hg : G ≠ g) (hR : R ≠ G) (h0 : w0.heap.size ≤ G) (i : Nat) (u : Value) : EvSt b g G R xs z (cs.setIfInBounds i u) rs w0 (w.setCell ⟨G, i, none⟩ u) := by
  obtain ⟨o, cap, hp⟩ := h.par
  refine ⟨⟨o, cap, hp.set hG hg i u⟩, h.ev.set i u, h.res.only (only_set w G i u) hR, h.but.trans ?_⟩
  exact ⟨rfl, rfl, rfl, by simp [World.setCell], fun k hk _ => by simp [World.setCell, Array.getElem?_modify, show ¬ G = k by omega]⟩

theorem take_line {b g G R : Nat} {k l : List UInt8} {xs : List ByteArray} {z K : ByteArray} {cs rs : Array Value} {w0 w : World} (hK : K.data.toList = k) (h : EvSt b g G R (str (k ++ l) :: xs) z cs rs w0 w) (hG : G ≠ b) (hR : R ≠ b) :
    Calls Tryz.prog 105 #[.pointer (some ⟨b, 0, none⟩), .string K] w fun e w' => e = .returned (.string (str l)) ∧ EvSt b g G R xs z cs rs w0 w' ∧ Only b w w' := by
  obtain ⟨o, cap, hp⟩ := h.par
  have h1 := take_any b g o cap _ xs z K false w hp (by rw [hK]; exact prefix_app k l)
  refine h1.mono ?_
  rintro e w' ⟨rfl, hq, ho⟩; refine ⟨?_, h.only hG hR hq ho, ho⟩
  rw [hK, show (str (k ++ l)).data.toList = k ++ l from rfl, trim_app]; rfl
theorem see_line {b g G R : Nat} {k l : List UInt8} {xs : List ByteArray} {z K : ByteArray} {cs rs : Array Value} {w0 w : World} (hK : K.data.toList = k) (h : EvSt b g G R (str (k ++ l) :: xs) z cs rs w0 w) :
    Calls Tryz.prog 107 #[.pointer (some ⟨b, 0, none⟩), .string K] w fun e w' => e = .returned (.tuple #[.string (str l), .bool true]) ∧ w' = w := by
  obtain ⟨o, cap, hp⟩ := h.par
  have h1 := see_any b g o cap _ xs z K false w hp; rw [hK, show (str (k ++ l)).data.toList = k ++ l from rfl, trim_app, prefix_app] at h1
  exact h1
theorem see_other {b g G R : Nat} {x : ByteArray} {xs : List ByteArray} {z K : ByteArray} {cs rs : Array Value} {w0 w : World} (h : EvSt b g G R (x :: xs) z cs rs w0 w) (hx : Lib.hasPrefix x.data.toList K.data.toList = false) :
    Calls Tryz.prog 107 #[.pointer (some ⟨b, 0, none⟩), .string K] w fun e w' => ∃ q, e = .returned (.tuple #[.string q, .bool false]) ∧ w' = w := by
  obtain ⟨o, cap, hp⟩ := h.par
  have h1 := see_any b g o cap _ xs z K false w hp; rw [hx] at h1
  exact h1.mono fun e w' hh => ⟨_, hh⟩
end Go.Proofs.YtageielcdebjlaaGreatDoor
namespace Tt
open Go.Lib
theorem decFrom_snoc (b : UInt8) (d : Nat) (hd : digitVal b = some d) : ∀ (l : List UInt8) (acc n : Nat), decFrom acc l = some n → decFrom acc (l ++ [b]) = some (n * 10 + d)
  | [], acc, n, h => by
    cases h
    rw [List.nil_append, decFrom, hd]; rfl
  | a :: t, acc, n, h => by
    rw [List.cons_append, decFrom]
    rw [decFrom] at h
    cases ha : digitVal a with
    | none => rw [ha] at h; cases h
    | some e => rw [ha] at h; exact decFrom_snoc b d hd t _ n h
theorem digit_val {n : Nat} (h : n < 10) : digitVal (UInt8.ofNat (48 + n)) = some n := (show ∀ n : Nat, n < 10 → digitVal (UInt8.ofNat (48 + n)) = some n by decide) n h
theorem decFrom_dec (n : Nat) : decFrom 0 (decDigits n) = some n := by
  by_cases h : n < 10
  · rw [decDigits_one h, decFrom, digit_val h]
    show some (0 * 10 + n) = some n
    rw [Nat.zero_mul, Nat.zero_add]
  · rw [dec_step h, decFrom_snoc _ _ (digit_val (Nat.mod_lt n (by decide))) _ _ _ (decFrom_dec (n / 10))]
    congr 1; omega
termination_by n
decreasing_by omega
theorem dec_head (n : Nat) : ∃ b r, decDigits n = b :: r ∧ b ≠ 45 ∧ b ≠ 43 := by
  by_cases h : n < 10
  · refine ⟨_, _, decDigits_one h, ?_⟩
    exact (show ∀ n : Nat, n < 10 → UInt8.ofNat (48 + n) ≠ 45 ∧ UInt8.ofNat (48 + n) ≠ 43 by decide) n h
  · obtain ⟨b, r, hb, hk⟩ := dec_head (n / 10)
    exact ⟨b, r ++ [UInt8.ofNat (48 + n % 10)], by rw [dec_step h, hb, List.cons_append], hk⟩
termination_by n
decreasing_by omega
/-- A number that is written is read again. -/
theorem atoi_dec (n : Nat) : atoi (decDigits n) = some (n : Int) := by
  obtain ⟨b, r, hb, h1, h2⟩ := dec_head n
  have h := decFrom_dec n; rw [hb] at h ⊢
  rw [atoi, if_neg (by simpa using h1), if_neg (by simpa using h2), decNat, h]; rfl
end Tt
namespace Go.Proofs.YtageielcdebjlaaGreatDoor
open Go.RowKit

theorem num_line {b g G R : Nat} {xs : List ByteArray} {z : ByteArray} {cs rs : Array Value} {w0 w : World} {n : Int} (h : EvSt b g G R xs z cs rs w0 w) (hg : g < w0.heap.size) (hG : G ≠ b) (hR : R ≠ b) (h0 : 0 ≤ n) (h1 : n ≤ 9999) :
    Calls Tryz.prog 106 #[.pointer (some ⟨b, 0, none⟩), .string (str (Lib.decDigits n.toNat))] w fun e w' => e = .returned (.int .i64 n) ∧ EvSt b g G R xs z cs rs w0 w' ∧ But b w.heap.size w w' := by
  obtain ⟨o, cap, hp⟩ := h.par
  have hl : (str (Lib.decDigits n.toNat)).size ≤ 18 := by
    rw [show (str (Lib.decDigits n.toNat)).size = (Lib.decDigits n.toNat).length from size_mk _]
    exact Nat.le_trans (Tt.dec_len 4 _ (by omega)) (by decide)
  refine (number_any b g o cap xs z _ n hl (by rw [show (str (Lib.decDigits n.toNat)).data.toList = Lib.decDigits n.toNat from rfl, Tt.atoi_dec]; congr 1; omega) w hp (Nat.lt_of_lt_of_le hg h.but.size)).mono ?_
  rintro e w' ⟨rfl, hq, ho⟩; exact ⟨rfl, h.step hG hR ⟨_, _, hq⟩ ho, ho⟩
theorem text_line {b g G R : Nat} {xs : List ByteArray} {z s : ByteArray} {cs rs : Array Value} {w0 w : World} (h : EvSt b g G R xs z cs rs w0 w) (hg : g < w0.heap.size) (hG : G ≠ b) (hR : R ≠ b) (hs : s.size ≤ 1000) :
    Calls Tryz.prog 181 #[.pointer (some ⟨b, 0, none⟩), .string (str (Tt.esc s.data.toList))] w fun e w' => e = .returned (.string s) ∧ EvSt b g G R xs z cs rs w0 w' ∧ But b w.heap.size w w' := by
  obtain ⟨o, cap, hp⟩ := h.par
  have hl : (str (Tt.esc s.data.toList)).size ≤ 70368744177664 := by
    rw [show (str (Tt.esc s.data.toList)).size = (Tt.esc s.data.toList).length from size_mk _]
    have h1 := Tt.esc_length s.data.toList
    rw [← Lib.size_eq] at h1
    omega
  refine (text181 b g o cap xs z _ false w hp (Nat.lt_of_lt_of_le hg h.but.size) hl).mono ?_
  rintro e w' ⟨rfl, hq, ho⟩; have hu : unescS (str (Tt.esc s.data.toList)).data.toList = s := by
    show (⟨((Tt.unesc (Tt.esc s.data.toList)).getD []).toArray⟩ : ByteArray) = s
    rw [Tt.unesc_esc]; exact Lib.mk_data s
  have hv : unescB (str (Tt.esc s.data.toList)).data.toList = true := by
    show (Tt.unesc (Tt.esc s.data.toList)).isSome = true
    rw [Tt.unesc_esc]; rfl
  rw [hv] at hq
  exact ⟨by rw [hu], h.step hG hR ⟨_, _, hq⟩ ho, ho⟩
theorem days_line {b g G R : Nat} {xs : List ByteArray} {z : ByteArray} {cs rs : Array Value} {w0 w : World} {ds : List Int} {start m : Int} (h : EvSt b g G R xs z cs rs w0 w) (hg : g < w0.heap.size) (hG : G ≠ b) (hR : R ≠ b) (hb3 : 3 < b) (hbw : b ≤ w0.heap.size) (hL : Lens w0) (hm : w0.cell? ⟨0, 0, none⟩ = some (.int .i64 m))
    (hne : ds ≠ []) (hd : ∀ d ∈ ds, 0 ≤ d ∧ d ≤ 36524) (h0 : 0 ≤ start) (h1 : start < 1440) (hn : ds.length ≤ 140) :
    Calls Tryz.prog 178 #[.pointer (some ⟨b, 0, none⟩), .string (str (Tt.stampsL start ds))] w fun e w' => ∃ v, e = .returned (.tuple #[v, .int .i64 start]) ∧ w'.ownsRow w.heap.size 3 1 v ds.length (ds.map fun d => .int .i64 d) ∧ EvSt b g G R xs z cs rs w0 w' ∧ But b w.heap.size w w' := by
  obtain ⟨o, cap, hp⟩ := h.par
  have hb := h.but.below (Nat.le_refl b) hbw
  refine (days178 b g o cap xs z _ ds start m w hp (Nat.lt_of_lt_of_le hg h.but.size) hb3 (hL.below hb3 hb) ((hb.cell (p := ⟨0, 0, none⟩) (by show 0 < b; omega)).trans hm) rfl hne hd h0 h1 hn).mono ?_
  rintro e w' ⟨v, rfl, hrow, hq, ho⟩; exact ⟨v, rfl, hrow, h.step hG hR ⟨_, _, hq⟩ ho, ho⟩
end Go.Proofs.YtageielcdebjlaaGreatDoor
