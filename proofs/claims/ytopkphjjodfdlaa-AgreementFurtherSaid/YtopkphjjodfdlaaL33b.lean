import Derived.Test.YtopkphjjodfdlaaL33a
namespace Go.Abs.L33
open Go Go.Abs Go.Proofs
set_option linter.unusedVariables false
set_option maxRecDepth 20000
theorem tkA (l : List Agr) : (l.map encA).take l.length = l.map encA := List.take_of_length_le (by simp)
theorem tkG (l : List Gr) : (l.map encG).take l.length = l.map encG := List.take_of_length_le (by simp)
theorem fnA {f : FuncId} {l : List Agr} {us : List AV} {r : AV} (h : Fn Try.prog f (A l :: us) r) : Fn Try.prog f (.rsl 6 l.length ((l.map encA).take l.length) :: us) r := by rw [tkA]; exact h
theorem fnAA {f : FuncId} {l m : List Agr} {us : List AV} {r : AV} (h : Fn Try.prog f (A l :: A m :: us) r) : Fn Try.prog f (.rsl 6 l.length ((l.map encA).take l.length) :: .rsl 6 m.length ((m.map encA).take m.length) :: us) r := by rw [tkA, tkA]; exact h
theorem fnG {f : FuncId} {l : List Gr} {us : List AV} {r : AV} (h : Fn Try.prog f (G l :: us) r) : Fn Try.prog f (.rsl 4 l.length ((l.map encG).take l.length) :: us) r := by rw [tkG]; exact h
theorem fnGG {f : FuncId} {l m : List Gr} {us : List AV} {r : AV} (h : Fn Try.prog f (G l :: G m :: us) r) : Fn Try.prog f (.rsl 4 l.length ((l.map encG).take l.length) :: .rsl 4 m.length ((m.map encG).take m.length) :: us) r := by rw [tkG, tkG]; exact h
theorem fnA2 {f : FuncId} {l : List Agr} {u : AV} {us : List AV} {r : AV} (h : Fn Try.prog f (u :: A l :: us) r) : Fn Try.prog f (u :: .rsl 6 l.length ((l.map encA).take l.length) :: us) r := by rw [tkA]; exact h
theorem grounds_len (l : List Agr) (x d : Int) : (groundsE l x d).length ≤ 64 := by
  unfold groundsE
  split
  · simp
  · rename_i h
    have hl := check_len (l := l) (by simpa using h)
    have := List.length_filter_le (closesB · x d) l
    simp only [List.length_map]
    omega
theorem l4 (l : List Agr) (x d : Int) : Fn Try.prog 4 [A l, I x, I d] (.bool true) := by
  refine mk4 rfl ⟨_, c10, fun h => (by cases h), fun _ => ⟨_, c11 l, fun h => ⟨rfl, rfl, rfl⟩, fun h => ?_⟩⟩
  have hlen : l.length ≤ 20 := by simp at h; omega
  have hg := grounds_len l x d
  refine ⟨_, c15 l (by omega), _, fnA (c19 l x d), _, c20 l x d, [], _, c15 l (by omega), _, fnA (c22 l x d), _, c23 l x d, _, fnGG (c21 _ _ (by omega)), rfl, rfl, ?_⟩
  show AV.bool true = AV.bool (decide (groundsE l x d = groundsE l x d) && ((opensR l x d).1 == (opensR l x d).1) && ((opensR l x d).2 == (opensR l x d).2))
  simp
theorem amend_len (l : List Agr) (id d : Int) (a : Agr) : (amendE l id d a).1.length ≤ 65 := by
  unfold amendE
  split
  · simp
  · rename_i h
    have hl := check_len (l := l) (by simpa using h)
    split
    · simp
    · split
      · unfold amendAt
        split
        · simp
        · split
          · simp
          · split
            · simp
            · simp; omega
      · simp
theorem l5 (l : List Agr) (x y : Int) (a : Agr) : Fn Try.prog 5 [A l, .agg [I x, I y], .agg (encA a)] (.bool true) := by
  refine mk5 rfl ⟨_, c10, fun h => (by cases h), fun _ => ⟨[], _, c11 l, fun h => ⟨rfl, rfl, rfl⟩, fun h => ?_⟩⟩
  have hlen : l.length ≤ 64 := by simp at h; omega
  have hg := amend_len l x y a
  refine ⟨_, c15 l (by omega), true, _, c24 l x y a, true, _, c25 l x y a, [], _, fnA2 (c26 (amendE l x y a).1 (amendE l x y a).1 (by omega)), rfl, rfl, ?_⟩
  show AV.bool true = AV.bool (decide ((amendE l x y a).1 = (amendE l x y a).1) && ((amendE l x y a).2 == (amendE l x y a).2))
  simp
end Go.Abs.L33
