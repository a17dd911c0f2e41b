import Derived.Test.YtopkphjjodfdlaaC33j
import Derived.Test.YtopkphjjodfdlaaL33d
namespace Go.Abs.L33
open Go Go.Abs Go.Proofs
set_option linter.unusedVariables false
set_option maxRecDepth 20000
theorem erase_rows {α : Type} (l : List α) (i : Nat) (hi : i < l.length) (X : List α) : (l.take i ++ (l.drop (i + 1)).take (l.length - (i + 1)) ++ X).take (i + (l.length - (i + 1))) = l.eraseIdx i := by
  rw [List.take_of_length_le (l := l.drop (i + 1)) (by simp), List.take_left' (by simp; omega), List.eraseIdx_eq_take_drop_succ]
theorem erase_map {α β : Type} (f : α → β) (l : List α) (i : Nat) : (l.map f).eraseIdx i = (l.eraseIdx i).map f := by
  rw [List.eraseIdx_eq_take_drop_succ, List.eraseIdx_eq_take_drop_succ, List.map_append, List.map_take, List.map_drop]
theorem c33 (l : List Agr) (hl : l.length ≤ 2000) (i : Nat) (hi : i < l.length) : FnM Try.prog 33 29 6 (l.map encA) [I i, I (i + 1 : Nat)] (fA (l.eraseIdx i)) := by
  refine fnM_of (N := 33) (ks := [0, 1, 2, 6, 7, 16]) 6 tabOK tabOne mixed Try.func33 rfl (by kernel_rfl) (by kernel_rfl) rfl rfl rfl ?_
  rw [List.length_map]
  refine ⟨⟨by omega, by omega, by omega, by omega⟩, fun h => ?_, fun h => ?_⟩
  · simp at h; omega
  · refine ⟨⟨by omega, by omega⟩, ⟨by omega, by omega⟩, ⟨by omega, by simp; omega⟩, ⟨by omega, by simp; omega, ?_⟩, ?_⟩
    · show (l.length : Int) ≤ ((List.take _ _ ++ List.take _ _ ++ List.drop _ _ : List (List AV)).length : Nat)
      simp; omega
    · refine ⟨?_, _, rfl, rfl, ?_, rfl, ?_⟩
      · show _ + _ ≤ (List.take _ _ ++ List.take _ _ ++ List.drop _ _ : List (List AV)).length
        simp; omega
      · show _ ≤ (List.take _ (List.take _ _ ++ List.take _ _ ++ List.drop _ _ : List (List AV)) ++ List.replicate _ _ ++ List.drop _ _ : List (List AV)).length
        simp; omega
      · have e1 : ((i : Nat) : Int).toNat = i := Int.toNat_natCast i
        have e2 : ((i + 1 : Nat) : Int).toNat = i + 1 := Int.toNat_natCast _
        show AV.fsl true 29 6 (l.eraseIdx i).length ((l.eraseIdx i).map encA) = AV.fsl true 29 6 ((i : Int).toNat + (l.length - ((i + 1 : Nat) : Int).toNat)) (List.take ((i : Int).toNat + (l.length - ((i + 1 : Nat) : Int).toNat)) (List.take (((i : Int).toNat + (l.length - ((i + 1 : Nat) : Int).toNat) : Nat) : Int).toNat (List.take (i : Int).toNat (l.map encA) ++ List.take (l.length - ((i + 1 : Nat) : Int).toNat) (List.drop ((i + 1 : Nat) : Int).toNat (l.map encA)) ++ List.drop ((i : Int).toNat + (l.length - ((i + 1 : Nat) : Int).toNat)) (l.map encA)) ++ List.replicate _ _ ++ List.drop _ _))
        rw [e1, e2, Int.toNat_natCast]
        have hX := erase_rows (l.map encA) i (by simpa using hi) (List.drop (i + (l.length - (i + 1))) (l.map encA))
        rw [List.length_map] at hX
        rw [hX, erase_map, List.append_assoc, List.take_left' (by rw [List.length_map, List.length_eraseIdx, if_pos hi]; omega)]
        rw [List.length_eraseIdx, if_pos hi]
        congr 1
        omega
theorem erase_sorted {l : List Agr} (i : Nat) (h : checkE l = 0) : checkE (l.eraseIdx i) = 0 := by
  have hl := check_len h
  obtain ⟨h1, h2⟩ := check_sorted h
  have hs := List.eraseIdx_sublist l i
  exact check_of (by have := hs.length_le; omega) (h1.sublist hs) fun a ha => h2 a (hs.subset ha)
theorem filter_erase {α : Type} (p : α → Bool) : ∀ {l : List α} {i : Nat} {a : α}, l[i]? = some a → (l.filter p).length = ((l.eraseIdx i).filter p).length + (if p a then 1 else 0)
  | [], i, a, h => by simp at h
  | x :: l, 0, a, h => by
    simp at h; subst h
    simp only [List.eraseIdx_zero, List.tail_cons, List.filter_cons]
    split <;> simp
  | x :: l, i + 1, a, h => by
    have := filter_erase p (l := l) (i := i) (a := a) (by simpa using h)
    simp only [List.eraseIdx_cons_succ, List.filter_cons]
    by_cases hx : p x = true
    · rw [if_pos hx, if_pos hx, List.length_cons, List.length_cons]; omega
    · rw [if_neg hx, if_neg hx]; exact this
theorem grounds_ok {l : List Agr} {x d : Int} (h : checkE l = 0) : groundsE l x d = (l.filter (closesB · x d)).map groundE := by
  unfold groundsE; rw [if_neg (by simp [h])]
theorem less_len {l : List Agr} {i : Nat} {a : Agr} {x d : Int} (hc : checkE l = 0) (ha : l[i]? = some a) : (groundsE l x d).length = (groundsE (l.eraseIdx i) x d).length + (if closesB a x d then 1 else 0) := by
  rw [grounds_ok hc, grounds_ok (erase_sorted i hc), List.length_map, List.length_map]
  exact filter_erase (closesB · x d) ha
theorem less_mem {l : List Agr} {i : Nat} {x d : Int} {g : Gr} (hc : checkE l = 0) (hg : g ∈ groundsE (l.eraseIdx i) x d) : g ∈ groundsE l x d := by
  rw [grounds_ok hc]
  rw [grounds_ok (erase_sorted i hc)] at hg
  obtain ⟨a, ha, rfl⟩ := List.mem_map.1 hg
  rw [List.mem_filter] at ha
  exact List.mem_map.2 ⟨a, List.mem_filter.2 ⟨(List.eraseIdx_sublist l i).subset ha.1, ha.2⟩, rfl⟩
end Go.Abs.L33
