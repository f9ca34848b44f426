/- The drawn versions of a timetable, plain: sessions in ascending order of their classes. No program in sight. Condition: none. -/
import Derived.Test.YtcomifbfldoeiaaGreatDoorPk22
import Derived.Test.YtcomifbfldoeiaaGreatDoorPk11
namespace Go.Proofs.YtcomifbfldoeiaaGreatDoor
open Go.RowKit

def RmOk (r : ByteArray) : Prop := r = ⟨#[]⟩ ∨ r = ⟨#[82, 49]⟩ ∨ r = ⟨#[82, 50]⟩
def ClsOk (s : ByteArray) : Prop := ∃ c : UInt8, s = ⟨#[99, c]⟩ ∧ 49 ≤ c.toNat ∧ c.toNat ≤ 52
theorem two_bytes (a b : UInt8) : (⟨#[a]⟩ ++ ⟨#[b]⟩ : ByteArray) = ⟨#[a, b]⟩ := by
  apply ByteArray.ext
  simp [ByteArray.data_append]
theorem byte_in {n : Int} (h0 : 49 ≤ n) (h1 : n ≤ 52) : 49 ≤ (UInt8.ofNat n.toNat).toNat ∧ (UInt8.ofNat n.toNat).toNat ≤ 52 := by
  rw [UInt8.toNat_ofNat_of_lt' (show n.toNat < UInt8.size by show n.toNat < 256; omega)]
  omega
/-- A session of a drawn version. -/
structure SesOk (g : Tt.Grd) (n : Int) (s : Ses) : Prop where
  cls : ClsOk s.cls
  tim : Tt.TimOk g n s.tim
  room : RmOk s.room
structure VerOk (g : Tt.Grd) (n : Int) (l : List Ses) : Prop where
  asc : l.Pairwise (fun a b => lessU a.cls b.cls = true)
  each : ∀ s ∈ l, SesOk g n s
theorem VerOk.nil (g : Tt.Grd) (n : Int) : VerOk g n [] := ⟨List.Pairwise.nil, fun s h => by cases h⟩
theorem putG_mem {s x : Ses} : ∀ {l : List Ses} {dn : Bool}, x ∈ putG s dn l → x = s ∧ dn = false ∨ x ∈ l ∧ x.cls ≠ s.cls
  | [], dn, h => by
    unfold putG at h
    cases dn with
    | true => simp at h
    | false => simp at h; exact .inl ⟨h, rfl⟩
  | y :: r, dn, h => by
    rw [putG] at h
    rcases List.mem_append.1 h with h | h
    · split at h
      · cases h
      · rename_i g
        refine .inl ⟨List.mem_singleton.1 h, ?_⟩
        cases dn with
        | true => simp at g
        | false => rfl
    · rcases List.mem_append.1 h with h | h
      · split at h
        · cases h
        · rename_i g
          rw [List.mem_singleton.1 h]
          exact .inr ⟨List.mem_cons_self .., fun q => g (by rw [q]; simp)⟩
      · rcases putG_mem h with ⟨a, b⟩ | ⟨a, b⟩
        · refine .inl ⟨a, ?_⟩
          cases dn with
          | true => simp at b
          | false => rfl
        · exact .inr ⟨List.mem_cons_of_mem _ a, b⟩
theorem putG_done (s : Ses) : ∀ l : List Ses, putG s true l = l.filter (fun x => !(x.cls.toList == s.cls.toList))
  | [] => rfl
  | x :: r => by
    rw [putG, Bool.true_or, if_pos rfl, Bool.true_or, putG_done s r, List.nil_append, List.filter_cons]
    by_cases h : (x.cls.toList == s.cls.toList) = true
    · rw [if_pos h, if_neg (by rw [h]; decide), List.nil_append]
    · rw [if_neg h, if_pos (by simpa using h)]; rfl
theorem cls_less {a b : ByteArray} (h : ¬ lessU a b = true) (hne : ¬ (a.toList == b.toList) = true) : lessU b a = true :=
  late_less (not_less_late (by simpa using h) (fun q => hne (by rw [q]; simp)))
theorem putG_asc {s : Ses} : ∀ {l : List Ses} {dn : Bool}, l.Pairwise (fun a b => lessU a.cls b.cls = true) → (putG s dn l).Pairwise (fun a b => lessU a.cls b.cls = true)
  | l, true, h => by rw [putG_done]; exact h.filter _
  | [], false, _ => by unfold putG; exact List.pairwise_singleton _ _
  | x :: r, false, h => by
    obtain ⟨h1, h2⟩ := List.pairwise_cons.1 h
    rw [putG, Bool.false_or, Bool.false_or]
    by_cases hl : Op.bytesLess x.cls.toList s.cls.toList = true
    · have hls : lessU x.cls s.cls = true := hl
      have hne : ¬ (x.cls.toList == s.cls.toList) = true := fun q => by
        have e : x.cls.toList = s.cls.toList := by simpa using q
        rw [e, bytesLess_eq] at hl
        simp at hl
        exact List.lt_irrefl _ hl
      rw [if_pos hl, if_neg hne, hl, List.nil_append]
      refine List.pairwise_cons.2 ⟨fun y hy => ?_, putG_asc h2⟩
      rcases putG_mem hy with ⟨a, -⟩ | ⟨a, -⟩
      · rw [a]; exact hls
      · exact h1 y a
    · have hl' : Op.bytesLess x.cls.toList s.cls.toList = false := by simpa using hl
      rw [if_neg hl, hl', Bool.not_false, putG_done, List.singleton_append]
      refine List.pairwise_cons.2 ⟨fun y hy => ?_, ?_⟩
      · rcases List.mem_append.1 hy with hy | hy
        · split at hy
          · cases hy
          · rename_i g
            rw [List.mem_singleton.1 hy]
            exact cls_less hl g
        · have hm := (List.mem_filter.1 hy).1
          by_cases hq : (x.cls.toList == s.cls.toList) = true
          · have e : x.cls.toList = s.cls.toList := by simpa using hq
            have := h1 y hm
            unfold lessU at this ⊢
            rwa [← e]
          · exact lessU_trans (cls_less hl hq) (h1 y hm)
      · split
        · exact h2.filter _
        · exact List.pairwise_cons.2 ⟨fun y hy => h1 y (List.mem_filter.1 hy).1, h2.filter _⟩
theorem VerOk.put {g : Tt.Grd} {n : Int} {l : List Ses} {s : Ses} (h : VerOk g n l) (aw : Bool) (hs : SesOk g n s) : VerOk g n (putG s aw l) :=
  ⟨putG_asc h.asc, fun x hx => by
    rcases putG_mem hx with ⟨a, -⟩ | ⟨a, -⟩
    · rw [a]; exact hs
    · exact h.each x a⟩
end Go.Proofs.YtcomifbfldoeiaaGreatDoor
