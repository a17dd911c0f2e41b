import Derived.Test.YtopkphjjodfdlaaB33
namespace Go.Abs.L33
open Go Go.Abs Go.Proofs
set_option linter.unusedVariables false
set_option maxRecDepth 20000
structure Agr where
  id : Int
  acc : Int
  til : Int
  strict : Bool
  lo : Int
  hi : Int
  deriving DecidableEq
structure Gr where
  kind : Int
  src : Int
  oth : Int
  til : Int
  deriving DecidableEq
def encA (a : Agr) : List AV := [.int .i64 a.id, .int .i64 a.acc, .int .i64 a.til, .bool a.strict, .int .i64 a.lo, .int .i64 a.hi]
def encG (g : Gr) : List AV := [.int .i64 g.kind, .int .i64 g.src, .int .i64 g.oth, .int .i64 g.til]
def formedB (a : Agr) : Bool := decide (a.id ≥ 1) && decide (a.id ≤ 1073741824) && decide (a.acc ≥ 1) && decide (a.acc ≤ 1073741824) && decide (a.til ≥ 0) && decide (a.til ≤ 1048576) && decide (a.lo ≥ 0) && decide (a.lo < a.hi) && decide (a.hi ≤ 1048576)
def closesB (a : Agr) (acc day : Int) : Bool := formedB a && (a.acc == acc) && decide (a.lo ≤ day) && decide (day < a.hi) && decide (day < a.til)
abbrev A (l : List Agr) : AV := .rsl 6 l.length (l.map encA)
abbrev G (l : List Gr) : AV := .rsl 4 l.length (l.map encG)
abbrev fA (l : List Agr) : AV := .fsl true 29 6 l.length (l.map encA)
abbrev fG (l : List Gr) : AV := .fsl true 52 4 l.length (l.map encG)
abbrev I (n : Int) : AV := .int .i64 n

theorem c35 (a : Agr) : Fn Try.prog 35 [.agg (encA a)] (.bool (formedB a)) := mk35 rfl ⟨[], rfl, rfl, rfl⟩
theorem c45 (lo hi : Int) : Fn Try.prog 45 [.agg [I lo, I hi]] (.bool (decide (lo ≥ 0) && decide (lo < hi) && decide (hi ≤ 1048576))) := mk45 rfl ⟨[], rfl, rfl, rfl⟩
theorem formed_alt (a : Agr) : formedB a = (decide (a.id ≥ 1) && decide (a.id ≤ 1073741824) && decide (a.acc ≥ 1) && decide (a.acc ≤ 1073741824) && decide (a.til ≥ 0) && decide (a.til ≤ 1048576) && (decide (a.lo ≥ 0) && decide (a.lo < a.hi) && decide (a.hi ≤ 1048576))) := by
  simp [formedB, Bool.and_assoc]
theorem c36 (a : Agr) : Fn Try.prog 36 [.agg (encA a)] (.bool (formedB a)) := mk36 rfl ⟨[], _, c45 a.lo a.hi, rfl, rfl, by rw [formed_alt]; rfl⟩
theorem c12 (a : Agr) (x d : Int) : Fn Try.prog 12 [.agg (encA a), I x, I d] (.bool (closesB a x d)) := mk12 rfl ⟨[], _, c35 a, rfl, rfl, rfl⟩
theorem c13 (a : Agr) (x d : Int) : Fn Try.prog 13 [.agg (encA a), I x, I d] (.bool (closesB a x d)) := mk13 rfl ⟨[], _, c36 a, rfl, rfl, rfl⟩
theorem c11 (l : List Agr) : Fn Try.prog 11 [A l] (.bool (decide ((l.length : Int) ≤ 20))) := mk11 rfl ⟨rfl, rfl, rfl⟩
def endsE (a : Agr) : Int := minI a.til a.hi
theorem c41 (a : Agr) : Fn Try.prog 41 [.agg (encA a)] (I (endsE a)) := mk41 rfl ⟨rfl, rfl, rfl⟩
def groundE (a : Agr) : Gr := ⟨3, a.id, 0, endsE a⟩
theorem c40 (a : Agr) : Fn Try.prog 40 [.agg (encA a)] (.agg (encG (groundE a))) := mk40 rfl ⟨_, c41 a, rfl, rfl, rfl⟩
theorem scalA (l : List Agr) : Scal (l.map encA) := by
  intro row hr u hu
  simp only [List.mem_map] at hr
  obtain ⟨a, _, rfl⟩ := hr
  simp only [encA, List.mem_cons, List.not_mem_nil, or_false] at hu
  rcases hu with rfl | rfl | rfl | rfl | rfl | rfl <;> rfl
theorem c15n : Fn Try.prog 15 [.nilsl] (fA []) := mk15 rfl ⟨fun _ => ⟨rfl, .inr ⟨_, _, _, rfl⟩⟩, fun h => by cases h⟩
theorem c15e : Fn Try.prog 15 [.esl] (fA []) := mk15 rfl ⟨fun h => (by cases h), fun _ => ⟨by decide, rfl, _, rfl, rfl, rfl, .inl ⟨rfl, rfl⟩⟩⟩
theorem c15 (l : List Agr) (h : l.length ≤ 2000) : Fn Try.prog 15 [A l] (fA l) := by
  cases l with
  | nil => exact fn_empty c15n c15e
  | cons a l =>
    refine mk15 rfl ⟨by simp, fun h => (by cases h), fun _ => ?_⟩
    exact ⟨⟨by simp at h ⊢; omega, by simp at h ⊢; omega⟩, scalA (a :: l), rfl, _, rfl, rfl, by simp, .inl ⟨rfl, by simp⟩⟩
end Go.Abs.L33
