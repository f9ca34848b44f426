/- The standard library's sort.Sort (with all functions that it calls) over rows that the caller's own methods Less and Swap read and turn, whatever the rows' cells: what it does to the row is the plain pattern-defeating quicksort. Conditions: the caller's methods do what the structure Fam says. -/
import Derived.Shelf.GgSortMore.IfacePdq
import Derived.Shelf.SlSortFunc.Xorshift
import Derived.Sort.WalkA6
import Derived.Sort.WalkB2
import Derived.Sort.WalkB12
import Derived.Sort.WalkB3
import Derived.Sort.Walk7
import Derived.Deep.LoopGhost
namespace Go.Proofs.YtageielcdebjlaaGreatDoor
open Go Go.Proofs Go.Shelf Go.RowKit Go.Lib Go.Sort
variable {P : Program} {ρ : Ren} {α : Type} [Inhabited α]

/-- Blocks from N on are as they were. -/
def KeptS (N : Nat) (W w : World) : Prop := W.heap.size ≤ w.heap.size ∧ ∀ b, N ≤ b → b < W.heap.size → w.heap[b]? = W.heap[b]?

/-- What is asked of the caller's methods: St W d says that in world W the row reads d. -/
structure Fam (P : Program) (rv : Value) (gl gs : Nat) (lt : α → α → Bool) (n N : Nat) (St : World → Array α → Prop) : Prop where
  size : ∀ {W d}, St W d → d.size = n
  top : ∀ {W d}, St W d → N ≤ W.heap.size
  drew : ∀ {W d}, St W d → ∀ q, St (W.drewN q) d
  alloc : ∀ {W d}, St W d → ∀ o, St (W.alloc o) d
  setn : ∀ {W d}, St W d → ∀ b o v, N ≤ b → St (W.setCell ⟨b, o, none⟩ v) d
  less : ∀ {W d}, St W d → ∀ i j : Nat, i < n → j < n → Calls P gl #[rv, .int .i64 i, .int .i64 j] W fun e w' => e = .returned (.bool (lt d[i]! d[j]!)) ∧ ∃ q, w' = W.drewN q
  swap : ∀ {W d}, St W d → ∀ i j : Nat, i < n → j < n → Calls P gs #[rv, .int .i64 i, .int .i64 j] W fun e w' => e = .returned (.tuple #[]) ∧ St w' (swp d i j) ∧ KeptS N W w'

section
variable {rv : Value} {gl gs : Nat} {lt : α → α → Bool} {n N : Nat} {St : World → Array α → Prop}

set_option maxHeartbeats 2000000 in
set_option maxRecDepth 1000000 in
theorem ins33 (L : LaysGt.n33 P ρ) (T : TypeId) (rL : Reaches P T rv "Less" gl) (rS : Reaches P T rv "Swap" gs) (F : Fam P rv gl gs lt n N St) {a b : Nat} {d : Array α} {w : World} (hS : St w d) (hab : a ≤ b) (hb : b ≤ n) (hsz : n < 4611686018427387904) :
    Calls P (ρ.f 33) #[.iface T rv, .int .i64 a, .int .i64 b] w fun e w' => e = .returned (.tuple #[]) ∧ St w' (Sort.insertionSort lt d a b) := by
  have mixed := L.mixed; have t0 := L.t0; have a0 := L.a0; have z0 := L.z0; have v0 := L.v0; have t3 := L.t3; have a3 := L.a3; have z3 := L.z3; have v3 := L.v3; have t4 := L.t4; have a4 := L.a4; have z4 := L.z4; have v4 := L.v4; have t26 := L.t26; have a26 := L.a26; have z26 := L.z26; have v26 := L.v26; have t38 := L.t38; have a38 := L.a38; have z38 := L.z38; have v38 := L.v38; have t43 := L.t43; have a43 := L.a43; have z43 := L.z43; have v43 := L.v43; have t45 := L.t45; have a45 := L.a45; have z45 := L.z45; have v45 := L.v45
  have mL : ∀ w, Sem.run P (method (P.types.size + 100) T rv "Less") w = .ok (gl, rv) w := rL.finds
  have eL := rL.enters; have mS : ∀ w, Sem.run P (method (P.types.size + 100) T rv "Swap") w = .ok (gs, rv) w := rS.finds
  have eS := rS.enters; go_enter L.f33, BodyGt.n33_ntmps ρ
  go_wp2
  go_loopw [6] (fun vi wr => ∃ (i : Nat) (dk : Array α), vi = .int .i64 i ∧ a < i ∧ Aside (St wr dk) ∧ Hid (insOuter lt a b i dk = insOuter lt a b (a + 1) d)) (fun vi _ => b + 1 - (intOf vi).toNat)
  case atStart => exact ⟨a + 1, d, by go_num, by omega, hS, rfl⟩
  case round =>
    obtain ⟨i, dk, rfl, hai, S, HO⟩ := hrel; clear hS; go_wp2
    · go_loopw [7] (fun vj wr2 => ∃ (j : Nat) (dj : Array α), vj = .int .i64 j ∧ a ≤ j ∧ j ≤ i ∧ Aside (St wr2 dj) ∧ Hid (insInner lt a j dj = insInner lt a i dk)) (fun vj _ => (intOf vj).toNat)
      case atStart => exact ⟨i, dk, rfl, by omega, Nat.le_refl _, S, rfl⟩
      case round =>
        clear S; obtain ⟨j, dj, rfl, haj, hji, S, HI⟩ := hrel; have hlt : i < b := by assumption
        have out : (j ≤ a ∨ lt dj[j]! dj[j - 1]! = false) → ∀ w2, St w2 dj → ∃ i' dk', Value.int .i64 ((i : Int) + 1) = .int .i64 (i' : Nat) ∧ a < i' ∧ Aside (St w2 dk') ∧ Hid (insOuter lt a b i' dk' = insOuter lt a b (a + 1) d) := fun hs w2 h2 =>
          ⟨i + 1, dj, by go_num, by omega, h2, (show _ = _ by rw [← HO.out, insOuter_go _ _ _ _ _ hlt, ← HI.out, insInner_stop _ _ _ _ hs])⟩
        have OUT : Hid _ := out
        clear out; by_cases hja : a < j
        · have hl := F.less S.out j (j - 1) (by omega) (by omega)
          have hsw := fun q => F.swap (F.drew S.out q) j (j - 1) (by omega) (by omega)
          rw [show (((j - 1 : Nat) : Int)) = (j : Int) - 1 by omega] at hl hsw
          cases hlv : lt dj[j]! dj[j - 1]! with
          | true =>
            rw [hlv] at hl
            go_wp2_with (first | (go_at_fn gl; refine hl.mono ?_; rintro e w' ⟨rfl, q, rfl⟩) | (go_at_fn gs; refine (hsw _).mono ?_; rintro e w' ⟨rfl, hst, -⟩))
            go_roundw
            case rel =>
              (repeat apply Exists.intro)
              exact ⟨⟨j - 1, swp dj j (j - 1), by congr 1 <;> omega, by omega, by omega, hst, (show _ = _ by rw [← HI.out, insInner_go lt a j dj hja hlv])⟩, by rw [decide_eq_true hlt, show ((j - 1 : Nat) : Int) = (j : Int) - 1 by omega]⟩
            case measure => simp [intOf]; omega
          | false =>
            rw [hlv] at hl
            go_wp2_with (go_at_fn gl; refine hl.mono ?_; rintro e w' ⟨rfl, q, rfl⟩)
            go_roundw
            case rel => exact OUT.out (Or.inr hlv) _ (F.drew S.out q)
            case measure => simp [intOf]; omega
        · go_wp2
          go_roundw
          case rel => exact OUT.out (Or.inl (by omega)) _ S.out
          case measure => simp [intOf]; omega
    · have hge : ¬ i < b := by assumption
      go_end0
      refine ⟨rfl, ?_⟩
      rw [show Sort.insertionSort lt d a b = dk by unfold Sort.insertionSort; rw [← HO.out, insOuter_stop _ _ _ _ _ hge]]
      exact S.out

set_option maxHeartbeats 2000000 in
set_option maxRecDepth 1000000 in
theorem rev37 (L : LaysGt.n37 P ρ) (T : TypeId) (rS : Reaches P T rv "Swap" gs) (F : Fam P rv gl gs lt n N St) {a b : Nat} {d : Array α} {w : World} (hS : St w d) (hab : a ≤ b) (hb : b ≤ n) (hsz : n < 4611686018427387904) :
    Calls P (ρ.f 37) #[.iface T rv, .int .i64 a, .int .i64 b] w fun e w' => e = .returned (.tuple #[]) ∧ St w' (reverseRange d a b) := by
  have mixed := L.mixed; have t0 := L.t0; have a0 := L.a0; have z0 := L.z0; have v0 := L.v0; have t3 := L.t3; have a3 := L.a3; have z3 := L.z3; have v3 := L.v3; have t4 := L.t4; have a4 := L.a4; have z4 := L.z4; have v4 := L.v4; have t26 := L.t26; have a26 := L.a26; have z26 := L.z26; have v26 := L.v26; have t38 := L.t38; have a38 := L.a38; have z38 := L.z38; have v38 := L.v38; have t43 := L.t43; have a43 := L.a43; have z43 := L.z43; have v43 := L.v43; have t45 := L.t45; have a45 := L.a45; have z45 := L.z45; have v45 := L.v45
  have mS : ∀ w, Sem.run P (method (P.types.size + 100) T rv "Swap") w = .ok (gs, rv) w := rS.finds
  have eS := rS.enters; go_enter L.f37, BodyGt.n37_ntmps ρ
  go_wp2
  go_loopg [6, 7] (b - a) (fun k s6 s7 wr => ∃ (i jn : Nat) (jz : Int) (dk : Array α), s6 = .int .i64 i ∧ s7 = .int .i64 jz ∧ ((i : Int) < jz → jz = jn ∧ jn < n) ∧ (¬ (i : Int) < jz → ¬ i < jn) ∧ jn - i ≤ k ∧ Aside (St wr dk) ∧ Hid (reverseLoop i jn dk = reverseLoop a (b - 1) d))
  case atStart => exact ⟨a, b - 1, (b : Int) - 1, d, rfl, rfl, fun h => ⟨by omega, by omega⟩, fun h => by omega, by omega, hS, rfl⟩
  case round =>
    clear hS; obtain ⟨i, jn, jz, dk, rfl, rfl, h1, h2, hk, S, HE⟩ := hrel; by_cases hlt : (i : Int) < jz
    · obtain ⟨rfl, hjn⟩ := h1 hlt
      have hij : i < jn := by omega
      have hs := F.swap S.out i jn (by omega) (by omega)
      clear h1 h2; go_wp2_with (go_at_fn gs; refine hs.mono ?_; rintro e w' ⟨rfl, hst, -⟩)
      go_roundg (jn - 1 - (i + 1))
      case measure => omega
      case rel => exact ⟨i + 1, jn - 1, (jn : Int) - 1, swp dk i jn, by simp, rfl, fun h => ⟨by omega, by omega⟩, fun h => by omega, Nat.le_refl _, hst, (show _ = _ by rw [← HE.out, reverseLoop.eq_def i jn dk, if_pos hij])⟩
    · have hnot := h2 hlt; go_wp2
      go_end0
      refine ⟨rfl, ?_⟩
      rw [show reverseRange d a b = dk by rw [reverseRange, ← HE.out, reverseLoop, if_neg hnot]]
      exact S.out

set_option maxHeartbeats 8000000 in
set_option maxRecDepth 1000000 in
theorem sift43 (L : LaysGt.n43 P ρ) (T : TypeId) (rL : Reaches P T rv "Less" gl) (rS : Reaches P T rv "Swap" gs) (F : Fam P rv gl gs lt n N St) {lo hi first : Nat} {d : Array α} {w : World} (hS : St w d) (hlo : lo ≤ hi) (hb : first + hi ≤ n) (hsz : n < 4611686018427387904) :
    Calls P (ρ.f 43) #[.iface T rv, .int .i64 lo, .int .i64 hi, .int .i64 first] w fun e w' => e = .returned (.tuple #[]) ∧ St w' (siftDown lt hi first lo d) := by
  have mixed := L.mixed; have t0 := L.t0; have a0 := L.a0; have z0 := L.z0; have v0 := L.v0; have t3 := L.t3; have a3 := L.a3; have z3 := L.z3; have v3 := L.v3; have t4 := L.t4; have a4 := L.a4; have z4 := L.z4; have v4 := L.v4; have t26 := L.t26; have a26 := L.a26; have z26 := L.z26; have v26 := L.v26; have t38 := L.t38; have a38 := L.a38; have z38 := L.z38; have v38 := L.v38; have t43 := L.t43; have a43 := L.a43; have z43 := L.z43; have v43 := L.v43; have t45 := L.t45; have a45 := L.a45; have z45 := L.z45; have v45 := L.v45
  have mL : ∀ w, Sem.run P (method (P.types.size + 100) T rv "Less") w = .ok (gl, rv) w := rL.finds
  have eL := rL.enters; have mS : ∀ w, Sem.run P (method (P.types.size + 100) T rv "Swap") w = .ok (gs, rv) w := rS.finds
  have eS := rS.enters; go_enter L.f43, BodyGt.n43_ntmps ρ
  go_wp2
  go_loopg [8] (hi - lo) (fun kx s8 wr => ∃ (root : Nat) (dk : Array α), s8 = .int .i64 root ∧ root ≤ hi ∧ hi - root ≤ kx ∧ Aside (St wr dk) ∧ Hid (siftDown lt hi first root dk = siftDown lt hi first lo d))
  case atStart => exact ⟨lo, d, rfl, hlo, Nat.le_refl _, hS, rfl⟩
  case round =>
    clear hS; obtain ⟨root, dk, rfl, hr, hkx, S, HE⟩ := hrel; by_cases h0 : hi ≤ 2 * root + 1
    · have h0z : (hi : Int) ≤ 2 * (root : Int) + 1 := by omega
      go_wp2
      go_end0
      refine ⟨rfl, ?_⟩
      rw [← HE.out, sd_end lt dk h0]; exact S.out
    · have h0z : ¬ ((hi : Int) ≤ 2 * (root : Int) + 1) := by omega
      by_cases h1 : 2 * root + 2 < hi
      · have h1z : 2 * (root : Int) + 1 + 1 < (hi : Int) := by omega
        have hl1 := F.less S.out (first + (2 * root + 1)) (first + (2 * root + 2)) (by omega) (by omega)
        rw [show ((first + (2 * root + 1) : Nat) : Int) = (first : Int) + (2 * (root : Int) + 1) by omega, show ((first + (2 * root + 2) : Nat) : Int) = (first : Int) + (2 * (root : Int) + 1) + 1 by omega] at hl1
        cases hL : lt dk[first + (2 * root + 1)]! dk[first + (2 * root + 2)]! with
        | true =>
          rw [hL] at hl1
          cases hG : lt dk[first + root]! dk[first + (2 * root + 2)]! with
          | true =>
            have hl2 := fun q => F.less (F.drew S.out q) (first + root) (first + (2 * root + 2)) (by omega) (by omega)
            rw [show ((first + root : Nat) : Int) = (first : Int) + (root : Int) by omega, show ((first + (2 * root + 2) : Nat) : Int) = (first : Int) + (2 * (root : Int) + 1 + 1) by omega, hG] at hl2
            have hs := fun q => F.swap (F.drew S.out q) (first + root) (first + (2 * root + 2)) (by omega) (by omega)
            rw [show ((first + root : Nat) : Int) = (first : Int) + (root : Int) by omega, show ((first + (2 * root + 2) : Nat) : Int) = (first : Int) + (2 * (root : Int) + 1 + 1) by omega] at hs
            go_wp2_with (first | (go_at_fn gl; refine hl1.mono ?_; rintro e w' ⟨rfl, q, rfl⟩) | (go_at_fn gl; refine (hl2 _).mono ?_; rintro e w' ⟨rfl, q2, rfl⟩) | (go_at_fn gs; refine (hs _).mono ?_; rintro e w' ⟨rfl, hst, -⟩))
            go_roundg (hi - (2 * root + 2))
            case measure => omega
            case rel => exact ⟨2 * root + 2, swp dk (first + root) (first + (2 * root + 2)), by go_num, by omega, Nat.le_refl _, hst, (show _ = _ by rw [← HE.out, sd_right_go lt dk h1 hL hG])⟩
          | false =>
            have hl2 := fun q => F.less (F.drew S.out q) (first + root) (first + (2 * root + 2)) (by omega) (by omega)
            rw [show ((first + root : Nat) : Int) = (first : Int) + (root : Int) by omega, show ((first + (2 * root + 2) : Nat) : Int) = (first : Int) + (2 * (root : Int) + 1 + 1) by omega, hG] at hl2
            go_wp2_with (first | (go_at_fn gl; refine hl1.mono ?_; rintro e w' ⟨rfl, q, rfl⟩) | (go_at_fn gl; refine (hl2 _).mono ?_; rintro e w' ⟨rfl, q2, rfl⟩))
            (try simp only [Exit.inBlock, Exit.then]); refine bodyPost_ret (results_none rfl _ _ _) rfl ?_
            refine ⟨rfl, ?_⟩
            rw [← HE.out, sd_right_stop lt dk h1 hL hG]; exact F.drew S.out _
        | false =>
          rw [hL] at hl1
          cases hG : lt dk[first + root]! dk[first + (2 * root + 1)]! with
          | true =>
            have hl2 := fun q => F.less (F.drew S.out q) (first + root) (first + (2 * root + 1)) (by omega) (by omega)
            rw [show ((first + root : Nat) : Int) = (first : Int) + (root : Int) by omega, show ((first + (2 * root + 1) : Nat) : Int) = (first : Int) + (2 * (root : Int) + 1) by omega, hG] at hl2
            have hs := fun q => F.swap (F.drew S.out q) (first + root) (first + (2 * root + 1)) (by omega) (by omega)
            rw [show ((first + root : Nat) : Int) = (first : Int) + (root : Int) by omega, show ((first + (2 * root + 1) : Nat) : Int) = (first : Int) + (2 * (root : Int) + 1) by omega] at hs
            go_wp2_with (first | (go_at_fn gl; refine hl1.mono ?_; rintro e w' ⟨rfl, q, rfl⟩) | (go_at_fn gl; refine (hl2 _).mono ?_; rintro e w' ⟨rfl, q2, rfl⟩) | (go_at_fn gs; refine (hs _).mono ?_; rintro e w' ⟨rfl, hst, -⟩))
            go_roundg (hi - (2 * root + 1))
            case measure => omega
            case rel => exact ⟨2 * root + 1, swp dk (first + root) (first + (2 * root + 1)), by go_num, by omega, Nat.le_refl _, hst, (show _ = _ by rw [← HE.out, sd_left_go lt dk (by omega) (fun _ => hL) hG])⟩
          | false =>
            have hl2 := fun q => F.less (F.drew S.out q) (first + root) (first + (2 * root + 1)) (by omega) (by omega)
            rw [show ((first + root : Nat) : Int) = (first : Int) + (root : Int) by omega, show ((first + (2 * root + 1) : Nat) : Int) = (first : Int) + (2 * (root : Int) + 1) by omega, hG] at hl2
            go_wp2_with (first | (go_at_fn gl; refine hl1.mono ?_; rintro e w' ⟨rfl, q, rfl⟩) | (go_at_fn gl; refine (hl2 _).mono ?_; rintro e w' ⟨rfl, q2, rfl⟩))
            (try simp only [Exit.inBlock, Exit.then]); refine bodyPost_ret (results_none rfl _ _ _) rfl ?_
            refine ⟨rfl, ?_⟩
            rw [← HE.out, sd_left_stop lt dk (by omega) (fun _ => hL) hG]
            exact F.drew S.out _
      · have h1z : ¬ (2 * (root : Int) + 1 + 1 < (hi : Int)) := by omega
        cases hG : lt dk[first + root]! dk[first + (2 * root + 1)]! with
        | true =>
          have hl2 := fun q => F.less (F.drew S.out q) (first + root) (first + (2 * root + 1)) (by omega) (by omega)
          rw [show ((first + root : Nat) : Int) = (first : Int) + (root : Int) by omega, show ((first + (2 * root + 1) : Nat) : Int) = (first : Int) + (2 * (root : Int) + 1) by omega, hG] at hl2
          have hs := fun q => F.swap (F.drew S.out q) (first + root) (first + (2 * root + 1)) (by omega) (by omega)
          rw [show ((first + root : Nat) : Int) = (first : Int) + (root : Int) by omega, show ((first + (2 * root + 1) : Nat) : Int) = (first : Int) + (2 * (root : Int) + 1) by omega] at hs
          go_wp2_with (first | (go_at_fn gl; refine (hl2 0).mono ?_; rintro e w' ⟨rfl, q2, rfl⟩) | (go_at_fn gs; refine (hs _).mono ?_; rintro e w' ⟨rfl, hst, -⟩))
          go_roundg (hi - (2 * root + 1))
          case measure => omega
          case rel => exact ⟨2 * root + 1, swp dk (first + root) (first + (2 * root + 1)), by go_num, by omega, Nat.le_refl _, hst, (show _ = _ by rw [← HE.out, sd_left_go lt dk (by omega) (fun h => absurd h h1) hG])⟩
        | false =>
          have hl2 := fun q => F.less (F.drew S.out q) (first + root) (first + (2 * root + 1)) (by omega) (by omega)
          rw [show ((first + root : Nat) : Int) = (first : Int) + (root : Int) by omega, show ((first + (2 * root + 1) : Nat) : Int) = (first : Int) + (2 * (root : Int) + 1) by omega, hG] at hl2
          go_wp2_with (first | (go_at_fn gl; refine (hl2 0).mono ?_; rintro e w' ⟨rfl, q2, rfl⟩))
          (try simp only [Exit.inBlock, Exit.then]); refine bodyPost_ret (results_none rfl _ _ _) rfl ?_
          refine ⟨rfl, ?_⟩
          rw [← HE.out, sd_left_stop lt dk (by omega) (fun h => absurd h h1) hG]
          exact F.drew S.out _

set_option maxHeartbeats 4000000 in
set_option maxRecDepth 1000000 in
theorem heap34 (L : LaysGt.n34 P ρ) (T : TypeId) (rL : Reaches P T rv "Less" gl) (rS : Reaches P T rv "Swap" gs) (F : Fam P rv gl gs lt n N St) {a b : Nat} {d : Array α} {w : World} (hS : St w d) (hab : a ≤ b) (hb : b ≤ n) (hsz : n < 4611686018427387904) :
    Calls P (ρ.f 34) #[.iface T rv, .int .i64 a, .int .i64 b] w fun e w' => e = .returned (.tuple #[]) ∧ St w' (heapSort lt d a b) := by
  have mixed := L.mixed; have t0 := L.t0; have a0 := L.a0; have z0 := L.z0; have v0 := L.v0; have t3 := L.t3; have a3 := L.a3; have z3 := L.z3; have v3 := L.v3; have t4 := L.t4; have a4 := L.a4; have z4 := L.z4; have v4 := L.v4; have t26 := L.t26; have a26 := L.a26; have z26 := L.z26; have v26 := L.v26; have t38 := L.t38; have a38 := L.a38; have z38 := L.z38; have v38 := L.v38; have t43 := L.t43; have a43 := L.a43; have z43 := L.z43; have v43 := L.v43; have t45 := L.t45; have a45 := L.a45; have z45 := L.z45; have v45 := L.v45
  have mL : ∀ w, Sem.run P (method (P.types.size + 100) T rv "Less") w = .ok (gl, rv) w := rL.finds
  have eL := rL.enters; have mS : ∀ w, Sem.run P (method (P.types.size + 100) T rv "Swap") w = .ok (gs, rv) w := rS.finds
  have eS := rS.enters; have e43 : ∀ args w, (callFunc (ρ.f 43) args).run P w = .ok (.enter (ρ.f 43) args) w := enters_of L.f43 (by kernel_rfl) rfl
  have ecast : ((b - a : Nat) : Int) = (b : Int) - (a : Int) := by omega
  go_enter L.f34, BodyGt.n34_ntmps ρ
  go_wp2
  go_loopg [9] ((b - a - 1) / 2 + 1) (fun kx s9 wr => s9 = .int .i64 ((kx : Int) - 1) ∧ kx ≤ (b - a - 1) / 2 + 1 ∧ ∃ (dk : Array α), Aside (St wr dk) ∧ Hid (heapBuild lt (b - a) a kx dk = heapBuild lt (b - a) a ((b - a - 1) / 2 + 1) d))
  case atStart => exact ⟨by rw [half_start hab], Nat.le_refl _, d, hS, rfl⟩
  case round =>
    clear hS; obtain ⟨rfl, hkk, dk, S, HE⟩ := hrel; cases gk with
    | zero =>
      have hB : dk = heapBuild lt (b - a) a ((b - a - 1) / 2 + 1) d := HE.out
      clear HE hkk; go_wp2
      go_loopg [10] (b - a) (fun kx s10 wr2 => s10 = .int .i64 ((kx : Int) - 1) ∧ kx ≤ b - a ∧ ∃ (dj : Array α), Aside (St wr2 dj) ∧ Hid (heapPop lt a kx dj = heapPop lt a (b - a) dk))
      case atStart => exact ⟨by rw [ecast], Nat.le_refl _, dk, S, rfl⟩
      case round =>
        clear S; obtain ⟨rfl, hkk, dj, S, HE2⟩ := hrel; cases gk with
        | zero =>
          go_wp2
          go_end0
          have e : dj = heapSort lt d a b := by rw [heapSort, ← hB, ← HE2.out]; rfl
          rw [← e]; exact ⟨rfl, S.out⟩
        | succ kx =>
          have hs := F.swap S.out a (a + kx) (by omega) (by omega)
          rw [show ((a + kx : Nat) : Int) = (a : Int) + (kx : Int) by omega] at hs
          have hcall := fun w2 (h2 : St w2 (swp dj a (a + kx))) => sift43 (P := P) (ρ := ρ) { L with } T rL rS F (lo := 0) (hi := kx) (first := a) h2 (Nat.zero_le _) (by omega) hsz
          have HC : Aside _ := hcall
          clear hcall; go_wp2_with (first | (go_at_fn gs; refine hs.mono ?_; rintro e w' ⟨rfl, hst, -⟩) | (go_at_fn (ρ.f 43); refine (HC.out _ hst).mono ?_; rintro e w1 ⟨rfl, hst1⟩))
          go_roundg kx
          case measure => omega
          case rel => exact ⟨by simp, by omega, _, hst1, HE2⟩
    | succ kx =>
      have hcall := sift43 (P := P) (ρ := ρ) { L with } T rL rS F (lo := kx) (hi := b - a) (first := a) S.out (by omega) (by omega) hsz
      rw [ecast] at hcall
      go_wp2_with (go_at_fn (ρ.f 43); refine hcall.mono ?_; rintro e w1 ⟨rfl, hst1⟩)
      go_roundg kx
      case measure => omega
      case rel => exact ⟨by simp, by omega, _, hst1, HE⟩

set_option maxHeartbeats 12800000 in
set_option maxRecDepth 1000000 in
theorem pe39 (L : LaysGt.n39 P ρ) (T : TypeId) (rL : Reaches P T rv "Less" gl) (rS : Reaches P T rv "Swap" gs) (F : Fam P rv gl gs lt n N St) {a b pivot : Nat} {d : Array α} {w : World} (hS : St w d) (hap : a ≤ pivot) (hpb : pivot < b) (hb : b ≤ n) (hsz : n < 4611686018427387904) :
    Calls P (ρ.f 39) #[.iface T rv, .int .i64 a, .int .i64 b, .int .i64 pivot] w fun e w' => e = .returned (.int .i64 (Sort.partitionEqual lt d a b pivot).1) ∧ St w' (Sort.partitionEqual lt d a b pivot).2 := by
  have mixed := L.mixed; have t0 := L.t0; have a0 := L.a0; have z0 := L.z0; have v0 := L.v0; have t3 := L.t3; have a3 := L.a3; have z3 := L.z3; have v3 := L.v3; have t4 := L.t4; have a4 := L.a4; have z4 := L.z4; have v4 := L.v4; have t26 := L.t26; have a26 := L.a26; have z26 := L.z26; have v26 := L.v26; have t38 := L.t38; have a38 := L.a38; have z38 := L.z38; have v38 := L.v38; have t43 := L.t43; have a43 := L.a43; have z43 := L.z43; have v43 := L.v43; have t45 := L.t45; have a45 := L.a45; have z45 := L.z45; have v45 := L.v45
  have mL : ∀ w, Sem.run P (method (P.types.size + 100) T rv "Less") w = .ok (gl, rv) w := rL.finds
  have eL := rL.enters; have mS : ∀ w, Sem.run P (method (P.types.size + 100) T rv "Swap") w = .ok (gs, rv) w := rS.finds
  have eS := rS.enters; have hs0 := F.swap hS a pivot (by omega) (by omega)
  clear hS; go_enter L.f39, BodyGt.n39_ntmps ρ
  go_wp2_with (go_at_fn gs; refine hs0.mono ?_; rintro e w' ⟨rfl, h0, -⟩)
  go_loopw [9, 10] (fun vi vj wr => ∃ (i j : Nat) (dk : Array α), vi = .int .i64 i ∧ vj = .int .i64 j ∧ a < i ∧ i ≤ j + 1 ∧ j < b ∧ Aside (St wr dk) ∧
      Hid (Sort.partEqLoop lt a i j dk = Sort.partEqLoop lt a (a + 1) (b - 1) (Sort.swp d a pivot)))
    (fun vi vj _ => (intOf vj).toNat + 1 - (intOf vi).toNat)
  case atStart => exact ⟨a + 1, b - 1, Sort.swp d a pivot, by go_num, by go_num, by omega, by omega, by omega, h0, rfl⟩
  case round =>
    clear hs0 h0; obtain ⟨i, j, dk, rfl, rfl, hai, hij, hjb, S, AE⟩ := hrel; go_wp2
    go_loopw [9] (fun vi w1 => ∃ (i' : Nat), vi = .int .i64 i' ∧ i ≤ i' ∧ i' ≤ j + 1 ∧ Aside (St w1 dk) ∧ Hid (Sort.scanUp (fun x => !lt dk[a]! x) dk j i' = Sort.scanUp (fun x => !lt dk[a]! x) dk j i)) (fun vi _ => j + 1 - (intOf vi).toNat)
    case atStart => exact ⟨i, rfl, Nat.le_refl _, hij, S, rfl⟩
    case round =>
      clear S; obtain ⟨i', rfl, hii, hij', S, hsc⟩ := hrel; by_cases hle : i' ≤ j
      · have hl := F.less S.out a i' (by omega) (by omega)
        cases hlv : lt dk[a]! dk[i']! with
        | false =>
          rw [hlv] at hl
          go_wp2_with (go_at_fn gl; refine hl.mono ?_; rintro e w' ⟨rfl, q, rfl⟩)
          go_roundw
          case rel => exact ⟨i' + 1, by go_num, by omega, by omega, F.drew S.out _, (scanUp_go (fun x => !lt dk[a]! x) dk j i' hle (by simp [hlv])).symm.trans hsc.out⟩
          case measure => simp [intOf]; omega
        | true =>
          rw [hlv] at hl
          have hi2 : Hid (i' = Sort.scanUp (fun x => !lt dk[a]! x) dk j i) := (scanUp_end (fun x => !lt dk[a]! x) dk j i' (Or.inr (by simp [hlv]))).symm.trans hsc.out
          go_wp2_with (go_at_fn gl; refine hl.mono ?_; rintro e w' ⟨rfl, q, rfl⟩)
          have S2 : Aside (St (wr.drewN q) dk) := F.drew S.out q
          clear S hsc hl; go_loopw [10] (fun vj w2 => ∃ (j' : Nat), vj = .int .i64 j' ∧ j' ≤ j ∧ i' ≤ j' + 1 ∧ Aside (St w2 dk) ∧ Hid (Sort.scanDown (fun x => lt dk[a]! x) dk i' j' = Sort.scanDown (fun x => lt dk[a]! x) dk i' j)) (fun vj _ => (intOf vj).toNat)
          case atStart => exact ⟨j, rfl, Nat.le_refl _, hij', S2, rfl⟩
          case round =>
            clear S2; obtain ⟨j', rfl, hjj, hij2, S, hsd⟩ := hrel; by_cases hle2 : i' ≤ j'
            · have hl := F.less S.out a j' (by omega) (by omega)
              cases hlv2 : lt dk[a]! dk[j']! with
              | true =>
                rw [hlv2] at hl
                go_wp2_with (go_at_fn gl; refine hl.mono ?_; rintro e w' ⟨rfl, q, rfl⟩)
                go_roundw
                case rel => exact ⟨j' - 1, by go_num, by omega, by omega, F.drew S.out _, (scanDown_go (fun x => lt dk[a]! x) dk i' j' hle2 (by omega) (by simp [hlv2])).symm.trans hsd.out⟩
                case measure => simp [intOf]; omega
              | false =>
                rw [hlv2] at hl
                have hj2 : Hid (j' = Sort.scanDown (fun x => lt dk[a]! x) dk i' j) := (scanDown_end (fun x => lt dk[a]! x) dk i' j' (Or.inr (by simp [hlv2]))).symm.trans hsd.out
                have hlt3 := scans_lt lt a i j dk (by omega) hi2.out hj2.out hle2
                have hsw := fun q => F.swap (F.drew S.out q) i' j' (by omega) (by omega)
                clear hsd S; go_wp2_with (first | (go_at_fn gl; refine hl.mono ?_; rintro e w' ⟨rfl, q, rfl⟩) | (go_at_fn gs; refine (hsw _).mono ?_; rintro e w' ⟨rfl, hst, -⟩))
                go_roundw
                case rel => exact ⟨i' + 1, j' - 1, Sort.swp dk i' j', by go_num, by go_num, by omega, by omega, by omega, hst, (show _ = _ by rw [← AE.out]; exact (partEq_go lt a i j dk hi2.out hj2.out (by omega)).symm)⟩
                case measure => simp [intOf]; omega
            · have hj2 : Hid (j' = Sort.scanDown (fun x => lt dk[a]! x) dk i' j) := (scanDown_end (fun x => lt dk[a]! x) dk i' j' (Or.inl hle2)).symm.trans hsd.out
              go_wp2
              go_ret; have e := partEq_break lt a i j dk hi2.out hj2.out (by omega)
              have e2 : Sort.partitionEqual lt d a b pivot = (i', dk) := by unfold Sort.partitionEqual; rw [← AE.out, e]
              rw [e2]
              exact ⟨rfl, S.out⟩
      · have hi2 : Hid (i' = Sort.scanUp (fun x => !lt dk[a]! x) dk j i) := (scanUp_end (fun x => !lt dk[a]! x) dk j i' (Or.inl hle)).symm.trans hsc.out
        go_wp2
        have S2 : Aside (St wr dk) := S
        clear S hsc; go_loopw [10] (fun vj w2 => ∃ (j' : Nat), vj = .int .i64 j' ∧ j' ≤ j ∧ i' ≤ j' + 1 ∧ Aside (St w2 dk) ∧ Hid (Sort.scanDown (fun x => lt dk[a]! x) dk i' j' = Sort.scanDown (fun x => lt dk[a]! x) dk i' j)) (fun vj _ => (intOf vj).toNat)
        case atStart => exact ⟨j, rfl, Nat.le_refl _, hij', S2, rfl⟩
        case round =>
          clear S2; obtain ⟨j', rfl, hjj, hij2, S, hsd⟩ := hrel; by_cases hle2 : i' ≤ j'
          · exfalso; omega
          · have hj2 : Hid (j' = Sort.scanDown (fun x => lt dk[a]! x) dk i' j) := (scanDown_end (fun x => lt dk[a]! x) dk i' j' (Or.inl hle2)).symm.trans hsd.out
            go_wp2
            go_ret; have e := partEq_break lt a i j dk hi2.out hj2.out (by omega)
            have e2 : Sort.partitionEqual lt d a b pivot = (i', dk) := by unfold Sort.partitionEqual; rw [← AE.out, e]
            rw [e2]
            exact ⟨rfl, S.out⟩

set_option maxHeartbeats 12800000 in
set_option maxRecDepth 1000000 in
theorem pa40 (L : LaysGt.n40 P ρ) (T : TypeId) (rL : Reaches P T rv "Less" gl) (rS : Reaches P T rv "Swap" gs) (F : Fam P rv gl gs lt n N St) {a b pivot : Nat} {d : Array α} {w : World} (hS : St w d) (hap : a ≤ pivot) (hpb : pivot < b) (hb : b ≤ n) (hsz : n < 4611686018427387904) :
    Calls P (ρ.f 40) #[.iface T rv, .int .i64 a, .int .i64 b, .int .i64 pivot] w fun e w' => e = .returned (.tuple #[.int .i64 (Sort.partition lt d a b pivot).1, .bool (Sort.partition lt d a b pivot).2.1]) ∧ St w' (Sort.partition lt d a b pivot).2.2 := by
  have mixed := L.mixed; have t0 := L.t0; have a0 := L.a0; have z0 := L.z0; have v0 := L.v0; have t3 := L.t3; have a3 := L.a3; have z3 := L.z3; have v3 := L.v3; have t4 := L.t4; have a4 := L.a4; have z4 := L.z4; have v4 := L.v4; have t26 := L.t26; have a26 := L.a26; have z26 := L.z26; have v26 := L.v26; have t38 := L.t38; have a38 := L.a38; have z38 := L.z38; have v38 := L.v38; have t43 := L.t43; have a43 := L.a43; have z43 := L.z43; have v43 := L.v43; have t45 := L.t45; have a45 := L.a45; have z45 := L.z45; have v45 := L.v45
  have mL : ∀ w, Sem.run P (method (P.types.size + 100) T rv "Less") w = .ok (gl, rv) w := rL.finds
  have eL := rL.enters; have mS : ∀ w, Sem.run P (method (P.types.size + 100) T rv "Swap") w = .ok (gs, rv) w := rS.finds
  have eS := rS.enters; have hs0 := F.swap hS a pivot (by omega) (by omega)
  clear hS; obtain ⟨i, hi⟩ : ∃ i : Nat, i = a + 1 := ⟨_, rfl⟩
  obtain ⟨j, hj⟩ : ∃ j : Nat, j = b - 1 := ⟨_, rfl⟩
  obtain ⟨dk, hdk⟩ : ∃ dk : Array α, dk = Sort.swp d a pivot := ⟨_, rfl⟩
  have hai : a < i := by omega
  have hij : i ≤ j + 1 := by omega
  have hjb : j < b := by omega
  rw [← hdk] at hs0
  have Hi : Hid (i = a + 1) := hi
  have Hj : Hid (j = b - 1) := hj
  have Hdk : Hid (dk = Sort.swp d a pivot) := hdk
  clear hi hj hdk; go_enter L.f40, BodyGt.n40_ntmps ρ
  go_wp2_with (go_at_fn gs; refine hs0.mono ?_; rintro e W1 ⟨rfl, h0, -⟩)
  rw [show ((a : Int) + 1) = (i : Int) by have := Hi.out; omega, show ((b : Int) - 1) = (j : Int) by have := Hj.out; omega]
  have S : Aside (St W1 dk) := h0
  clear hs0 h0; go_loopw [10] (fun vi w1 => ∃ (i' : Nat), vi = .int .i64 i' ∧ i ≤ i' ∧ i' ≤ j + 1 ∧ Aside (St w1 dk) ∧ Hid (Sort.scanUp (fun x => lt x dk[a]!) dk j i' = Sort.scanUp (fun x => lt x dk[a]!) dk j i)) (fun vi _ => j + 1 - (intOf vi).toNat)
  case atStart => exact ⟨i, rfl, Nat.le_refl _, hij, S, rfl⟩
  case round =>
    clear S; obtain ⟨i', rfl, hii, hij', S, hsc⟩ := hrel; by_cases hle : i' ≤ j
    · have hl := F.less S.out i' a (by omega) (by omega)
      cases hlv : lt dk[i']! dk[a]! with
      | true =>
        rw [hlv] at hl
        go_wp2_with (go_at_fn gl; refine hl.mono ?_; rintro e w' ⟨rfl, q, rfl⟩)
        go_roundw
        case rel => exact ⟨i' + 1, by go_num, by omega, by omega, F.drew S.out _, (scanUp_go (fun x => lt x dk[a]!) dk j i' hle (by simp [hlv])).symm.trans hsc.out⟩
        case measure => simp [intOf]; omega
      | false =>
        rw [hlv] at hl
        have hi2 : Hid (i' = Sort.scanUp (fun x => lt x dk[a]!) dk j i) := (scanUp_end (fun x => lt x dk[a]!) dk j i' (Or.inr (by simp [hlv]))).symm.trans hsc.out
        go_wp2_with (go_at_fn gl; refine hl.mono ?_; rintro e w' ⟨rfl, q, rfl⟩)
        have S2 : Aside (St (wr.drewN q) dk) := F.drew S.out q
        clear S hsc hl; go_loopw [11] (fun vj w2 => ∃ (j' : Nat), vj = .int .i64 j' ∧ j' ≤ j ∧ i' ≤ j' + 1 ∧ Aside (St w2 dk) ∧ Hid (Sort.scanDown (fun x => !lt x dk[a]!) dk i' j' = Sort.scanDown (fun x => !lt x dk[a]!) dk i' j)) (fun vj _ => (intOf vj).toNat)
        case atStart => exact ⟨j, rfl, Nat.le_refl _, hij', S2, rfl⟩
        case round =>
          clear S2; obtain ⟨j', rfl, hjj, hij2, S, hsd⟩ := hrel; by_cases hle2 : i' ≤ j'
          · have hl := F.less S.out j' a (by omega) (by omega)
            cases hlv2 : lt dk[j']! dk[a]! with
            | false =>
              rw [hlv2] at hl
              go_wp2_with (go_at_fn gl; refine hl.mono ?_; rintro e w' ⟨rfl, q, rfl⟩)
              go_roundw
              case rel => exact ⟨j' - 1, by go_num, by omega, by omega, F.drew S.out _, (scanDown_go (fun x => !lt x dk[a]!) dk i' j' hle2 (by omega) (by simp [hlv2])).symm.trans hsd.out⟩
              case measure => simp [intOf]; omega
            | true =>
              rw [hlv2] at hl
              have hj2 : Hid (j' = Sort.scanDown (fun x => !lt x dk[a]!) dk i' j) := (scanDown_end (fun x => !lt x dk[a]!) dk i' j' (Or.inr (by simp [hlv2]))).symm.trans hsd.out
              have hlt3 := part_scans_lt lt a i j dk (by omega) hi2.out hj2.out hle2
              have hsw := fun q => F.swap (F.drew S.out q) i' j' (by omega) (by omega)
              clear hsd S; go_wp2_with (first | (go_at_fn gl; refine hl.mono ?_; rintro e w' ⟨rfl, q, rfl⟩) | (go_at_fn gs; refine (hsw _).mono ?_; rintro e w' ⟨rfl, hst, -⟩))
              (try rw [decide_eq_false (show ¬ j' < i' by omega)])
              obtain ⟨I0, hI0⟩ : ∃ I0 : Nat, I0 = i' + 1 := ⟨_, rfl⟩
              obtain ⟨J0, hJ0⟩ : ∃ J0 : Nat, J0 = j' - 1 := ⟨_, rfl⟩
              obtain ⟨D0, hD0⟩ : ∃ D0 : Array α, D0 = Sort.swp dk i' j' := ⟨_, rfl⟩
              have PF : Hid (Sort.partition lt d a b pivot = ((Sort.partLoop lt a I0 J0 D0).1, false, Sort.swp (Sort.partLoop lt a I0 J0 D0).2 (Sort.partLoop lt a I0 J0 D0).1 a)) := by
                show _ = _
                rw [hI0, hJ0, hD0]; exact part_first_go lt d a b pivot Hi.out Hj.out Hdk.out hi2.out hj2.out (by omega)
              go_loopw [10, 11] (fun vi vj wr => ∃ (i j : Nat) (dk : Array α), vi = .int .i64 i ∧ vj = .int .i64 j ∧ a < i ∧ i ≤ j + 1 ∧ j < b ∧ Aside (St wr dk) ∧ Hid (Sort.partLoop lt a i j dk = Sort.partLoop lt a I0 J0 D0))
                (fun vi vj _ => (intOf vj).toNat + 1 - (intOf vi).toNat)
              case atStart => exact ⟨i' + 1, j' - 1, Sort.swp dk i' j', by go_num, by go_num, by omega, by omega, by omega, hst, (show _ = _ by rw [hI0, hJ0, hD0])⟩
              case round =>
                clear hI0 hJ0 hD0 hsw hj2 hi2 hlt3 hl Hi Hj Hdk hst; obtain ⟨i, j, dk, rfl, rfl, hai, hij, hjb, S, AE⟩ := hrel; go_wp2
                go_loopw [10] (fun vi w1 => ∃ (i' : Nat), vi = .int .i64 i' ∧ i ≤ i' ∧ i' ≤ j + 1 ∧ Aside (St w1 dk) ∧ Hid (Sort.scanUp (fun x => lt x dk[a]!) dk j i' = Sort.scanUp (fun x => lt x dk[a]!) dk j i)) (fun vi _ => j + 1 - (intOf vi).toNat)
                case atStart => exact ⟨i, rfl, Nat.le_refl _, hij, S, rfl⟩
                case round =>
                  clear S; obtain ⟨i', rfl, hii, hij', S, hsc⟩ := hrel; by_cases hle : i' ≤ j
                  · have hl := F.less S.out i' a (by omega) (by omega)
                    cases hlv : lt dk[i']! dk[a]! with
                    | true =>
                      rw [hlv] at hl
                      go_wp2_with (go_at_fn gl; refine hl.mono ?_; rintro e w' ⟨rfl, q, rfl⟩)
                      go_roundw
                      case rel => exact ⟨i' + 1, by go_num, by omega, by omega, F.drew S.out _, (scanUp_go (fun x => lt x dk[a]!) dk j i' hle (by simp [hlv])).symm.trans hsc.out⟩
                      case measure => simp [intOf]; omega
                    | false =>
                      rw [hlv] at hl
                      have hi2 : Hid (i' = Sort.scanUp (fun x => lt x dk[a]!) dk j i) := (scanUp_end (fun x => lt x dk[a]!) dk j i' (Or.inr (by simp [hlv]))).symm.trans hsc.out
                      go_wp2_with (go_at_fn gl; refine hl.mono ?_; rintro e w' ⟨rfl, q, rfl⟩)
                      have S2 : Aside (St (wr.drewN q) dk) := F.drew S.out q
                      clear S hsc hl; go_loopw [11] (fun vj w2 => ∃ (j' : Nat), vj = .int .i64 j' ∧ j' ≤ j ∧ i' ≤ j' + 1 ∧ Aside (St w2 dk) ∧ Hid (Sort.scanDown (fun x => !lt x dk[a]!) dk i' j' = Sort.scanDown (fun x => !lt x dk[a]!) dk i' j)) (fun vj _ => (intOf vj).toNat)
                      case atStart => exact ⟨j, rfl, Nat.le_refl _, hij', S2, rfl⟩
                      case round =>
                        clear S2; obtain ⟨j', rfl, hjj, hij2, S, hsd⟩ := hrel; by_cases hle2 : i' ≤ j'
                        · have hl := F.less S.out j' a (by omega) (by omega)
                          cases hlv2 : lt dk[j']! dk[a]! with
                          | false =>
                            rw [hlv2] at hl
                            go_wp2_with (go_at_fn gl; refine hl.mono ?_; rintro e w' ⟨rfl, q, rfl⟩)
                            go_roundw
                            case rel => exact ⟨j' - 1, by go_num, by omega, by omega, F.drew S.out _, (scanDown_go (fun x => !lt x dk[a]!) dk i' j' hle2 (by omega) (by simp [hlv2])).symm.trans hsd.out⟩
                            case measure => simp [intOf]; omega
                          | true =>
                            rw [hlv2] at hl
                            have hj2 : Hid (j' = Sort.scanDown (fun x => !lt x dk[a]!) dk i' j) := (scanDown_end (fun x => !lt x dk[a]!) dk i' j' (Or.inr (by simp [hlv2]))).symm.trans hsd.out
                            have hlt3 := part_scans_lt lt a i j dk (by omega) hi2.out hj2.out hle2
                            have hsw := fun q => F.swap (F.drew S.out q) i' j' (by omega) (by omega)
                            clear hsd S; go_wp2_with (first | (go_at_fn gl; refine hl.mono ?_; rintro e w' ⟨rfl, q, rfl⟩) | (go_at_fn gs; refine (hsw _).mono ?_; rintro e w' ⟨rfl, hst, -⟩))
                            go_roundw
                            case rel => exact ⟨i' + 1, j' - 1, Sort.swp dk i' j', by go_num, by go_num, by omega, by omega, by omega, hst, (show _ = _ by rw [← AE.out]; exact (part_go lt a i j dk hi2.out hj2.out (by omega)).symm)⟩
                            case measure => simp [intOf]; omega
                        · have hj2 : Hid (j' = Sort.scanDown (fun x => !lt x dk[a]!) dk i' j) := (scanDown_end (fun x => !lt x dk[a]!) dk i' j' (Or.inl hle2)).symm.trans hsd.out
                          have hsw := F.swap S.out j' a (by omega) (by omega)
                          clear hsd S; go_wp2_with (go_at_fn gs; refine hsw.mono ?_; rintro e w' ⟨rfl, hst, -⟩)
                          go_ret2
                          have e := part_break lt a i j dk hi2.out hj2.out (by omega)
                          rw [PF.out, ← AE.out, e]
                          exact ⟨rfl, hst⟩
                  · have hi2 : Hid (i' = Sort.scanUp (fun x => lt x dk[a]!) dk j i) := (scanUp_end (fun x => lt x dk[a]!) dk j i' (Or.inl hle)).symm.trans hsc.out
                    go_wp2
                    have S2 : Aside (St wr dk) := S
                    clear S hsc; go_loopw [11] (fun vj w2 => ∃ (j' : Nat), vj = .int .i64 j' ∧ j' ≤ j ∧ i' ≤ j' + 1 ∧ Aside (St w2 dk) ∧ Hid (Sort.scanDown (fun x => !lt x dk[a]!) dk i' j' = Sort.scanDown (fun x => !lt x dk[a]!) dk i' j)) (fun vj _ => (intOf vj).toNat)
                    case atStart => exact ⟨j, rfl, Nat.le_refl _, hij', S2, rfl⟩
                    case round =>
                      clear S2; obtain ⟨j', rfl, hjj, hij2, S, hsd⟩ := hrel; by_cases hle2 : i' ≤ j'
                      · exfalso; omega
                      · have hj2 : Hid (j' = Sort.scanDown (fun x => !lt x dk[a]!) dk i' j) := (scanDown_end (fun x => !lt x dk[a]!) dk i' j' (Or.inl hle2)).symm.trans hsd.out
                        have hsw := F.swap S.out j' a (by omega) (by omega)
                        clear hsd S; go_wp2_with (go_at_fn gs; refine hsw.mono ?_; rintro e w' ⟨rfl, hst, -⟩)
                        go_ret2
                        have e := part_break lt a i j dk hi2.out hj2.out (by omega)
                        rw [PF.out, ← AE.out, e]
                        exact ⟨rfl, hst⟩
          · have hj2 : Hid (j' = Sort.scanDown (fun x => !lt x dk[a]!) dk i' j) := (scanDown_end (fun x => !lt x dk[a]!) dk i' j' (Or.inl hle2)).symm.trans hsd.out
            have hsw := F.swap S.out j' a (by omega) (by omega)
            clear hsd S; go_wp2_with (go_at_fn gs; refine hsw.mono ?_; rintro e w' ⟨rfl, hst, -⟩)
            go_ret2
            rw [part_first_break lt d a b pivot Hi.out Hj.out Hdk.out hi2.out hj2.out (by omega)]
            exact ⟨rfl, hst⟩
    · have hi2 : Hid (i' = Sort.scanUp (fun x => lt x dk[a]!) dk j i) := (scanUp_end (fun x => lt x dk[a]!) dk j i' (Or.inl hle)).symm.trans hsc.out
      go_wp2
      have S2 : Aside (St wr dk) := S
      clear S hsc; go_loopw [11] (fun vj w2 => ∃ (j' : Nat), vj = .int .i64 j' ∧ j' ≤ j ∧ i' ≤ j' + 1 ∧ Aside (St w2 dk) ∧ Hid (Sort.scanDown (fun x => !lt x dk[a]!) dk i' j' = Sort.scanDown (fun x => !lt x dk[a]!) dk i' j)) (fun vj _ => (intOf vj).toNat)
      case atStart => exact ⟨j, rfl, Nat.le_refl _, hij', S2, rfl⟩
      case round =>
        clear S2; obtain ⟨j', rfl, hjj, hij2, S, hsd⟩ := hrel; by_cases hle2 : i' ≤ j'
        · exfalso; omega
        · have hj2 : Hid (j' = Sort.scanDown (fun x => !lt x dk[a]!) dk i' j) := (scanDown_end (fun x => !lt x dk[a]!) dk i' j' (Or.inl hle2)).symm.trans hsd.out
          have hsw := F.swap S.out j' a (by omega) (by omega)
          clear hsd S; go_wp2_with (go_at_fn gs; refine hsw.mono ?_; rintro e w' ⟨rfl, hst, -⟩)
          go_ret2
          rw [part_first_break lt d a b pivot Hi.out Hj.out Hdk.out hi2.out hj2.out (by omega)]
          exact ⟨rfl, hst⟩

set_option maxHeartbeats 16000000 in
set_option maxRecDepth 1000000 in
theorem par38 (L : LaysGt.n38 P ρ) (T : TypeId) (rL : Reaches P T rv "Less" gl) (rS : Reaches P T rv "Swap" gs) (F : Fam P rv gl gs lt n N St) {a b : Nat} {d : Array α} {w : World} (hS : St w d) (hab : a < b) (hb : b ≤ n) (hsz : n < 4611686018427387904) :
    Calls P (ρ.f 38) #[.iface T rv, .int .i64 a, .int .i64 b] w fun e w' => e = .returned (.bool (Sort.partialInsertionSort lt d a b).2) ∧ St w' (Sort.partialInsertionSort lt d a b).1 := by
  have mixed := L.mixed; have t0 := L.t0; have a0 := L.a0; have z0 := L.z0; have v0 := L.v0; have t3 := L.t3; have a3 := L.a3; have z3 := L.z3; have v3 := L.v3; have t4 := L.t4; have a4 := L.a4; have z4 := L.z4; have v4 := L.v4; have t26 := L.t26; have a26 := L.a26; have z26 := L.z26; have v26 := L.v26; have t38 := L.t38; have a38 := L.a38; have z38 := L.z38; have v38 := L.v38; have t43 := L.t43; have a43 := L.a43; have z43 := L.z43; have v43 := L.v43; have t45 := L.t45; have a45 := L.a45; have z45 := L.z45; have v45 := L.v45
  have mL : ∀ w, Sem.run P (method (P.types.size + 100) T rv "Less") w = .ok (gl, rv) w := rL.finds
  have eL := rL.enters; have mS : ∀ w, Sem.run P (method (P.types.size + 100) T rv "Swap") w = .ok (gs, rv) w := rS.finds
  have eS := rS.enters; go_enter L.f38, BodyGt.n38_ntmps ρ
  go_wp2
  go_loopg [7, 8] 5 (fun g1 vi vs wr => ∃ (i s : Nat) (dk : Array α), vi = .int .i64 i ∧ vs = .int .i64 s ∧ s ≤ 5 ∧ 5 - s ≤ g1 ∧ a < i ∧ i ≤ b ∧ Aside (St wr dk) ∧ Hid (partialIns lt a b (5 - s) i dk = partialIns lt a b 5 (a + 1) d))
  case atStart => exact ⟨a + 1, 0, d, by go_num, rfl, by omega, by omega, by omega, by omega, hS, rfl⟩
  case round =>
    clear hS; obtain ⟨i, s, dk, rfl, rfl, hs5, hg1, hai, hib, S, HO⟩ := hrel; by_cases hs : s < 5
    · have hsz5 : (s : Int) < 5 := by omega
      go_wp2
      go_loopg [7] (b - i) (fun g2 vi wr2 => ∃ (kx : Nat), vi = .int .i64 kx ∧ i ≤ kx ∧ kx ≤ b ∧ b - kx ≤ g2 ∧ Aside (St wr2 dk) ∧ Hid (scanSorted lt dk b kx = scanSorted lt dk b i))
      case atStart => exact ⟨i, rfl, Nat.le_refl _, hib, Nat.le_refl _, S, rfl⟩
      case round =>
        clear S; obtain ⟨kx, rfl, hik, hkb, hg2, S, HSc⟩ := hrel; by_cases hkb' : kx < b
        · have hkz : (kx : Int) < (b : Int) := by omega
          have hl := F.less S.out kx (kx - 1) (by omega) (by omega)
          rw [show ((kx - 1 : Nat) : Int) = (kx : Int) - 1 by omega] at hl
          cases hlv : lt dk[kx]! dk[kx - 1]! with
          | false =>
            rw [hlv] at hl
            go_wp2_with (go_at_fn gl; refine hl.mono ?_; rintro e w' ⟨rfl, q, rfl⟩)
            go_roundg (b - (kx + 1))
            case measure => omega
            case rel => exact ⟨kx + 1, by go_num, by omega, by omega, Nat.le_refl _, F.drew S.out _, (show _ = _ by rw [← HSc.out, scanSorted_go lt dk b kx hkb' hlv])⟩
          | true =>
            rw [hlv] at hl
            have HK : Hid (scanSorted lt dk b i = kx) := by show _ = _; rw [← HSc.out, scanSorted_stop lt dk b kx (Or.inr hlv)]
            have hkne : ((kx : Int) == (b : Int)) = false := beq_eq_false_iff_ne.2 (by omega)
            by_cases h50 : b - a < 50
            · have h50z : (b : Int) - (a : Int) < 50 := by omega
              go_wp2_with (go_at_fn gl; refine hl.mono ?_; rintro e w' ⟨rfl, q, rfl⟩)
              rw [show Sort.partialInsertionSort lt d a b = (dk, false) by
                unfold Sort.partialInsertionSort
                rw [← HO.out, pi_short lt a b s i dk hs (by rw [HK.out]; omega) h50]]
              go_ret; exact ⟨rfl, F.drew S.out _⟩
            · have h50z : ¬ ((b : Int) - (a : Int) < 50) := by omega
              have hs1 := fun q => F.swap (F.drew S.out q) kx (kx - 1) (by omega) (by omega)
              rw [show ((kx - 1 : Nat) : Int) = (kx : Int) - 1 by omega] at hs1
              by_cases hka : kx - a ≥ 2
              · have hkaz : (2 : Int) ≤ (kx : Int) - (a : Int) := by omega
                go_wp2_with (first | (go_at_fn gl; refine hl.mono ?_; rintro e w' ⟨rfl, q, rfl⟩) | (go_at_fn gs; refine (hs1 _).mono ?_; rintro e w' ⟨rfl, hst, -⟩))
                go_loopg [9] (kx - 1) (fun g3 vj wr3 => ∃ (j : Nat) (dj : Array α), vj = .int .i64 j ∧ j ≤ kx - 1 ∧ j ≤ g3 ∧ Aside (St wr3 dj) ∧ Hid (shiftDown lt j dj = shiftDown lt (kx - 1) (swp dk kx (kx - 1))))
                case atStart => exact ⟨kx - 1, (swp dk kx (kx - 1)), by congr 1; omega, Nat.le_refl _, Nat.le_refl _, hst, rfl⟩
                case round =>
                  clear S hst; obtain ⟨j, dj, rfl, hjk, hg3, S, HDn⟩ := hrel; by_cases hj1 : 1 ≤ j
                  · have hj1z : (1 : Int) ≤ (j : Int) := by omega
                    have hl2 := F.less S.out j (j - 1) (by omega) (by omega)
                    have hs2 := fun q => F.swap (F.drew S.out q) j (j - 1) (by omega) (by omega)
                    rw [show ((j - 1 : Nat) : Int) = (j : Int) - 1 by omega] at hl2 hs2
                    cases hlv2 : lt dj[j]! dj[j - 1]! with
                    | true =>
                      rw [hlv2] at hl2
                      go_wp2_with (first | (go_at_fn gl; refine hl2.mono ?_; rintro e w' ⟨rfl, q, rfl⟩) | (go_at_fn gs; refine (hs2 _).mono ?_; rintro e w' ⟨rfl, hst, -⟩))
                      go_roundg (j - 1)
                      case measure => omega
                      case rel => exact ⟨j - 1, swp dj j (j - 1), by congr 1; omega, by omega, Nat.le_refl _, hst, (show _ = _ by rw [← HDn.out, shiftDown_go lt j dj hj1 hlv2])⟩
                    | false =>
                      rw [hlv2] at hl2
                      have HD : Hid (fixDown lt a kx (swp dk kx (kx - 1)) = dj) := by show _ = _; unfold fixDown; rw [if_pos hka, ← HDn.out, shiftDown_stop lt j dj (Or.inr hlv2)]
                      by_cases hbk : b - kx ≥ 2
                      · have hbkz : (2 : Int) ≤ (b : Int) - (kx : Int) := by omega
                        go_wp2_with (go_at_fn gl; refine hl2.mono ?_; rintro e w' ⟨rfl, q, rfl⟩)
                        go_loopg [10] (b - (kx + 1)) (fun g4 vj wr4 => ∃ (ju : Nat) (du : Array α), vj = .int .i64 ju ∧ kx + 1 ≤ ju ∧ ju ≤ b ∧ b - ju ≤ g4 ∧ Aside (St wr4 du) ∧ Hid (shiftUp lt b ju du = shiftUp lt b (kx + 1) dj))
                        case atStart => exact ⟨kx + 1, dj, by go_num, Nat.le_refl _, by omega, Nat.le_refl _, F.drew S.out _, rfl⟩
                        case round =>
                          clear S; obtain ⟨ju, du, rfl, hkj, hjb, hg4, S, HU⟩ := hrel; by_cases hjb' : ju < b
                          · have hjz : (ju : Int) < (b : Int) := by omega
                            have hl3 := F.less S.out ju (ju - 1) (by omega) (by omega)
                            have hs3 := fun q => F.swap (F.drew S.out q) ju (ju - 1) (by omega) (by omega)
                            rw [show ((ju - 1 : Nat) : Int) = (ju : Int) - 1 by omega] at hl3 hs3
                            cases hlv3 : lt du[ju]! du[ju - 1]! with
                            | true =>
                              rw [hlv3] at hl3
                              go_wp2_with (first | (go_at_fn gl; refine hl3.mono ?_; rintro e w' ⟨rfl, q, rfl⟩) | (go_at_fn gs; refine (hs3 _).mono ?_; rintro e w' ⟨rfl, hst3, -⟩))
                              go_roundg (b - (ju + 1))
                              case measure => omega
                              case rel => exact ⟨ju + 1, swp du ju (ju - 1), by go_num, by omega, by omega, Nat.le_refl _, hst3, (show _ = _ by rw [← HU.out, shiftUp_go lt b ju du hjb' hlv3])⟩
                            | false =>
                              rw [hlv3] at hl3
                              go_wp2_with (go_at_fn gl; refine hl3.mono ?_; rintro e w' ⟨rfl, q, rfl⟩)
                              go_roundg (5 - (s + 1))
                              case measure => omega
                              case rel => exact ⟨kx, s + 1, du, rfl, by go_num, by omega, Nat.le_refl _, by omega, by omega, F.drew S.out _, (show _ = _ by rw [← HO.out, pi_go lt a b s i kx dk hs HK.out (by omega) h50, HD.out, show fixUp lt b kx dj = du from by unfold fixUp; rw [if_pos hbk, ← HU.out, shiftUp_stop lt b ju du (Or.inr hlv3)]])⟩
                          · have hjz : ¬ (ju : Int) < (b : Int) := by omega
                            go_wp2
                            go_roundg (5 - (s + 1))
                            case measure => omega
                            case rel => exact ⟨kx, s + 1, du, rfl, by go_num, by omega, Nat.le_refl _, by omega, by omega, S, (show _ = _ by rw [← HO.out, pi_go lt a b s i kx dk hs HK.out (by omega) h50, HD.out, show fixUp lt b kx dj = du from by unfold fixUp; rw [if_pos hbk, ← HU.out, shiftUp_stop lt b ju du (Or.inl hjb')]])⟩
                      · have hbkz : ¬ (2 : Int) ≤ (b : Int) - (kx : Int) := by omega
                        go_wp2_with (go_at_fn gl; refine hl2.mono ?_; rintro e w' ⟨rfl, q, rfl⟩)
                        go_roundg (5 - (s + 1))
                        case measure => omega
                        case rel => exact ⟨kx, s + 1, dj, rfl, by go_num, by omega, Nat.le_refl _, by omega, by omega, F.drew S.out _, (show _ = _ by rw [← HO.out, pi_go lt a b s i kx dk hs HK.out (by omega) h50, HD.out, show fixUp lt b kx dj = dj from by unfold fixUp; rw [if_neg hbk]])⟩
                  · have hj1z : ¬ (1 : Int) ≤ (j : Int) := by omega
                    have HD : Hid (fixDown lt a kx (swp dk kx (kx - 1)) = dj) := by show _ = _; unfold fixDown; rw [if_pos hka, ← HDn.out, shiftDown_stop lt j dj (Or.inl (by omega))]
                    by_cases hbk : b - kx ≥ 2
                    · have hbkz : (2 : Int) ≤ (b : Int) - (kx : Int) := by omega
                      go_wp2
                      go_loopg [10] (b - (kx + 1)) (fun g4 vj wr4 => ∃ (ju : Nat) (du : Array α), vj = .int .i64 ju ∧ kx + 1 ≤ ju ∧ ju ≤ b ∧ b - ju ≤ g4 ∧ Aside (St wr4 du) ∧ Hid (shiftUp lt b ju du = shiftUp lt b (kx + 1) dj))
                      case atStart => exact ⟨kx + 1, dj, by go_num, Nat.le_refl _, by omega, Nat.le_refl _, S, rfl⟩
                      case round =>
                        clear S; obtain ⟨ju, du, rfl, hkj, hjb, hg4, S, HU⟩ := hrel; by_cases hjb' : ju < b
                        · have hjz : (ju : Int) < (b : Int) := by omega
                          have hl3 := F.less S.out ju (ju - 1) (by omega) (by omega)
                          have hs3 := fun q => F.swap (F.drew S.out q) ju (ju - 1) (by omega) (by omega)
                          rw [show ((ju - 1 : Nat) : Int) = (ju : Int) - 1 by omega] at hl3 hs3
                          cases hlv3 : lt du[ju]! du[ju - 1]! with
                          | true =>
                            rw [hlv3] at hl3
                            go_wp2_with (first | (go_at_fn gl; refine hl3.mono ?_; rintro e w' ⟨rfl, q, rfl⟩) | (go_at_fn gs; refine (hs3 _).mono ?_; rintro e w' ⟨rfl, hst3, -⟩))
                            go_roundg (b - (ju + 1))
                            case measure => omega
                            case rel => exact ⟨ju + 1, swp du ju (ju - 1), by go_num, by omega, by omega, Nat.le_refl _, hst3, (show _ = _ by rw [← HU.out, shiftUp_go lt b ju du hjb' hlv3])⟩
                          | false =>
                            rw [hlv3] at hl3
                            go_wp2_with (go_at_fn gl; refine hl3.mono ?_; rintro e w' ⟨rfl, q, rfl⟩)
                            go_roundg (5 - (s + 1))
                            case measure => omega
                            case rel => exact ⟨kx, s + 1, du, rfl, by go_num, by omega, Nat.le_refl _, by omega, by omega, F.drew S.out _, (show _ = _ by rw [← HO.out, pi_go lt a b s i kx dk hs HK.out (by omega) h50, HD.out, show fixUp lt b kx dj = du from by unfold fixUp; rw [if_pos hbk, ← HU.out, shiftUp_stop lt b ju du (Or.inr hlv3)]])⟩
                        · have hjz : ¬ (ju : Int) < (b : Int) := by omega
                          go_wp2
                          go_roundg (5 - (s + 1))
                          case measure => omega
                          case rel => exact ⟨kx, s + 1, du, rfl, by go_num, by omega, Nat.le_refl _, by omega, by omega, S, (show _ = _ by rw [← HO.out, pi_go lt a b s i kx dk hs HK.out (by omega) h50, HD.out, show fixUp lt b kx dj = du from by unfold fixUp; rw [if_pos hbk, ← HU.out, shiftUp_stop lt b ju du (Or.inl hjb')]])⟩
                    · have hbkz : ¬ (2 : Int) ≤ (b : Int) - (kx : Int) := by omega
                      go_wp2
                      go_roundg (5 - (s + 1))
                      case measure => omega
                      case rel => exact ⟨kx, s + 1, dj, rfl, by go_num, by omega, Nat.le_refl _, by omega, by omega, S, (show _ = _ by rw [← HO.out, pi_go lt a b s i kx dk hs HK.out (by omega) h50, HD.out, show fixUp lt b kx dj = dj from by unfold fixUp; rw [if_neg hbk]])⟩
              · have hkaz : ¬ (2 : Int) ≤ (kx : Int) - (a : Int) := by omega
                have HD : Hid (fixDown lt a kx (swp dk kx (kx - 1)) = (swp dk kx (kx - 1))) := by show _ = _; unfold fixDown; rw [if_neg hka]
                by_cases hbk : b - kx ≥ 2
                · have hbkz : (2 : Int) ≤ (b : Int) - (kx : Int) := by omega
                  go_wp2_with (first | (go_at_fn gl; refine hl.mono ?_; rintro e w' ⟨rfl, q, rfl⟩) | (go_at_fn gs; refine (hs1 _).mono ?_; rintro e w' ⟨rfl, hst, -⟩))
                  go_loopg [10] (b - (kx + 1)) (fun g4 vj wr4 => ∃ (ju : Nat) (du : Array α), vj = .int .i64 ju ∧ kx + 1 ≤ ju ∧ ju ≤ b ∧ b - ju ≤ g4 ∧ Aside (St wr4 du) ∧ Hid (shiftUp lt b ju du = shiftUp lt b (kx + 1) (swp dk kx (kx - 1))))
                  case atStart => exact ⟨kx + 1, (swp dk kx (kx - 1)), by go_num, Nat.le_refl _, by omega, Nat.le_refl _, hst, rfl⟩
                  case round =>
                    clear S hst; obtain ⟨ju, du, rfl, hkj, hjb, hg4, S, HU⟩ := hrel; by_cases hjb' : ju < b
                    · have hjz : (ju : Int) < (b : Int) := by omega
                      have hl3 := F.less S.out ju (ju - 1) (by omega) (by omega)
                      have hs3 := fun q => F.swap (F.drew S.out q) ju (ju - 1) (by omega) (by omega)
                      rw [show ((ju - 1 : Nat) : Int) = (ju : Int) - 1 by omega] at hl3 hs3
                      cases hlv3 : lt du[ju]! du[ju - 1]! with
                      | true =>
                        rw [hlv3] at hl3
                        go_wp2_with (first | (go_at_fn gl; refine hl3.mono ?_; rintro e w' ⟨rfl, q, rfl⟩) | (go_at_fn gs; refine (hs3 _).mono ?_; rintro e w' ⟨rfl, hst3, -⟩))
                        go_roundg (b - (ju + 1))
                        case measure => omega
                        case rel => exact ⟨ju + 1, swp du ju (ju - 1), by go_num, by omega, by omega, Nat.le_refl _, hst3, (show _ = _ by rw [← HU.out, shiftUp_go lt b ju du hjb' hlv3])⟩
                      | false =>
                        rw [hlv3] at hl3
                        go_wp2_with (go_at_fn gl; refine hl3.mono ?_; rintro e w' ⟨rfl, q, rfl⟩)
                        go_roundg (5 - (s + 1))
                        case measure => omega
                        case rel => exact ⟨kx, s + 1, du, rfl, by go_num, by omega, Nat.le_refl _, by omega, by omega, F.drew S.out _, (show _ = _ by rw [← HO.out, pi_go lt a b s i kx dk hs HK.out (by omega) h50, HD.out, show fixUp lt b kx (swp dk kx (kx - 1)) = du from by unfold fixUp; rw [if_pos hbk, ← HU.out, shiftUp_stop lt b ju du (Or.inr hlv3)]])⟩
                    · have hjz : ¬ (ju : Int) < (b : Int) := by omega
                      go_wp2
                      go_roundg (5 - (s + 1))
                      case measure => omega
                      case rel => exact ⟨kx, s + 1, du, rfl, by go_num, by omega, Nat.le_refl _, by omega, by omega, S, (show _ = _ by rw [← HO.out, pi_go lt a b s i kx dk hs HK.out (by omega) h50, HD.out, show fixUp lt b kx (swp dk kx (kx - 1)) = du from by unfold fixUp; rw [if_pos hbk, ← HU.out, shiftUp_stop lt b ju du (Or.inl hjb')]])⟩
                · exfalso; omega
        · obtain rfl : kx = b := by omega
          have hkz : ¬ (kx : Int) < (kx : Int) := by omega
          go_wp2
          rw [show Sort.partialInsertionSort lt d a kx = (dk, true) by
            unfold Sort.partialInsertionSort
            rw [← HO.out, pi_true lt a kx s i dk hs (by rw [← HSc.out, scanSorted_stop lt dk kx kx (Or.inl (by omega))])]]
          go_ret; exact ⟨rfl, S.out⟩
    · obtain rfl : s = 5 := by omega
      go_wp2
      rw [show Sort.partialInsertionSort lt d a b = (dk, false) by
        unfold Sort.partialInsertionSort
        rw [← HO.out, pi_end]]
      go_ret; exact ⟨rfl, S.out⟩
end
end Go.Proofs.YtageielcdebjlaaGreatDoor
