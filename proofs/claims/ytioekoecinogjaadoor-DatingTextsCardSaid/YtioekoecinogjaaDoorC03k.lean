import Derived.Test.YtioekoecinogjaaDoorC03i
import Derived.Shelf.Strings.Shaped
namespace Go.Abs.L03
open Go Go.Abs Go.Abs.Day Go.Proofs Go.RowKit
set_option linter.unusedVariables false
set_option maxRecDepth 20000
/-! ### parts of a text -/
def hasP (p l : List UInt8) : Bool := decide (p.length ≤ l.length) && decide (l.take p.length = p)
theorem c80 (l p : List UInt8) (hl : l.length ≤ 9223372036854775807) (hp : p.length ≤ 9223372036854775807) : Fn Tryd.prog 80 [.str (bs l), .str (bs p)] (.bool (hasP p l)) := by
  by_cases h : p.length ≤ l.length
  · have e : (bs l).extract 0 ((bs p).size : Int).toNat = bs (l.take p.length) := by
      rw [show ((bs p).size : Int).toNat = p.length by rw [bs_size]; omega]; exact ext_take _ _
    refine mk80 rfl ⟨[(5, true)], by show decide (((l.length : Nat) : Int) ≥ ((p.length : Nat) : Int)) = true; simp; omega, ⟨by omega, by show ((p.length : Nat) : Int) ≤ ((l.length : Nat) : Int); omega⟩, rfl, rfl, ?_⟩
    show AV.bool (hasP p l) = AV.bool (true && (((bs l).extract 0 ((bs p).size : Int).toNat).toList == (bs p).toList))
    rw [e, bs_eq, hasP, decide_eq_true h]
  · have : hasP p l = false := by unfold hasP; simp [h]
    rw [this]
    exact mk80 rfl ⟨[(5, false)], by show decide (((l.length : Nat) : Int) ≥ ((p.length : Nat) : Int)) = false; simp; omega, rfl, rfl, rfl⟩
def cutP (p l : List UInt8) : List UInt8 × Bool := if hasP p l = true then (l.drop p.length, true) else (l, false)
theorem c68 (l p : List UInt8) (hl : l.length ≤ 9223372036854775807) (hp : p.length ≤ 9223372036854775807) : Fn Tryd.prog 68 [.str (bs l), .str (bs p)] (.tup [.str (bs (cutP p l).1), .bool (cutP p l).2]) := by
  refine mk68 rfl ⟨_, c80 l p hl hp, fun h => ?_, fun h => ?_⟩
  · rw [cutP, if_neg (by simpa using h)]
    exact ⟨_, _, rfl, ⟨rfl, rfl⟩, rfl, rfl, trivial⟩
  · have h : hasP p l = true := by simpa using h
    rw [cutP, if_pos h]
    have hle : p.length ≤ l.length := by unfold hasP at h; simp at h; exact h.1
    have e : (bs l).extract ((bs p).size : Int).toNat (bs l).size = bs (l.drop p.length) := by
      rw [show ((bs p).size : Int).toNat = p.length by rw [bs_size]; omega]; exact ext_drop _ _
    refine ⟨⟨by omega, by show ((p.length : Nat) : Int) ≤ ((l.length : Nat) : Int); omega⟩, ?_⟩
    exact ⟨_, _, rfl, ⟨rfl, congrArg AV.str e.symm⟩, rfl, rfl, trivial⟩
theorem c42 (l p : List UInt8) (hl : l.length ≤ 9223372036854775807) (hp : p.length ≤ 9223372036854775807) : Fn Tryd.prog 42 [.str (bs l), .str (bs p)] (.tup [.str (bs (cutP p l).1), .bool (cutP p l).2]) := by
  refine mk42 rfl ⟨_, c68 l p hl hp, ?_⟩
  exact ⟨_, _, rfl, ⟨rfl, rfl⟩, rfl, rfl, trivial⟩
theorem two_args {vs : Array Value} (h : 2 = vs.size) : ∃ a b, vs = #[a, b] := by
  match vs, h with
  | ⟨[a, b]⟩, _ => exact ⟨a, b, rfl⟩
theorem below_drew (w : World) (n : Nat) : Below w.heap.size w (w.drewN n) := ⟨rfl, rfl, rfl, Nat.le_refl _, fun g hg => rfl⟩
theorem c41 (l : List UInt8) (hl : l.length < 4294967281) : Fn Tryd.prog 41 [.str (bs l), .str (bs [47])] (.tup [.str (bs (Lib.cut l [47]).1), .str (bs (Lib.cut l [47]).2.1), .bool (Lib.cut l [47]).2.2]) := by
  refine ⟨⟨_, Tryd.func41, by kernel_rfl, by kernel_rfl⟩, fun X w vs hw hl' hv => ?_⟩
  obtain ⟨a, b, rfl⟩ := two_args (by simpa using hl')
  have e1 := VR.str_inv (hv 0 _ a rfl rfl)
  have e2 := VR.str_inv (hv 1 _ b rfl rfl)
  subst e1 e2
  obtain ⟨m, hm⟩ := hw.1
  refine (Any.strings_Cut { Tryd.laysM145 with } (bs l) (bs [47]) m w hl hm).mono ?_
  rintro e w' ⟨rfl, n, rfl⟩
  refine ⟨_, rfl, ⟨_, rfl, rfl, ⟨_, rfl, .str⟩, fun j u c hu hc => ?_⟩, below_drew w n⟩
  match j with
  | 0 => simp at hu hc; subst hu hc; exact .str
  | 1 => simp at hu hc; subst hu hc; exact .bool
  | j + 2 => simp at hu
/-! ### reading a part -/
def sufL : List UInt8 := [48, 48, 48, 48, 45, 48, 49, 45, 48, 49]
def fullL (l : List UInt8) : List UInt8 := l ++ sufL.drop l.length
theorem parse_good {l : List UInt8} (h : (parseE l).2 = 0) : good (parseE l).1 := by
  rcases parse_cases l with h1 | h1 | ⟨y, m, n, hD, hd, _⟩
  · rw [h1] at h; cases h
  · rw [h1] at h; cases h
  · exact ⟨hD.lo, hd⟩
noncomputable def readR (l : List UInt8) : Dat × Bool := if (parseE (fullL l)).2 ≠ 0 then (zD, false) else (perE (parseE (fullL l)).1 l.length, true)
theorem read_ok {l : List UInt8} (h : (readR l).2 = true) : okD (readR l).1 = true := by
  unfold readR at h ⊢
  split at h
  · cases h
  · rename_i h1
    rw [if_neg h1]
    exact okP (parse_good (by simpa using h1))
theorem c48 (l : List UInt8) (hl : l.length ≤ 10) : Fn Tryd.prog 48 [.str (bs l)] (.tup [.agg (encD (readR l).1), .bool (readR l).2]) := by
  have e1 : (⟨#[48, 48, 48, 48, 45, 48, 49, 45, 48, 49]⟩ : ByteArray).extract ((bs l).size : Int).toNat (⟨#[48, 48, 48, 48, 45, 48, 49, 45, 48, 49]⟩ : ByteArray).size = bs (sufL.drop l.length) := by
    rw [show ((bs l).size : Int).toNat = l.length by rw [bs_size]; omega]
    exact ext_drop sufL l.length
  have hp := c_Parse (fullL l) (by unfold fullL sufL; simp; omega)
  rw [show bs (fullL l) = bs l ++ bs (sufL.drop l.length) from (bs_app _ _).symm, ← e1] at hp
  refine mk48 rfl ⟨⟨by omega, by show ((l.length : Nat) : Int) ≤ 10; omega⟩, ?_, _, hp, fun h => ?_, fun h => ?_⟩
  · rw [e1, bs_size, bs_size]; unfold sufL; simp; omega
  · have h : (parseE (fullL l)).2 ≠ 0 := by simpa using h
    rw [readR, if_pos h]
    exact ⟨_, _, rfl, ⟨rfl, rfl⟩, rfl, rfl, trivial⟩
  · have h : (parseE (fullL l)).2 = 0 := by simpa using h
    rw [readR, if_neg (fun hc => hc h)]
    refine ⟨_, c58 _ (parse_good h) (l.length : Int), ?_⟩
    exact ⟨_, _, rfl, ⟨rfl, rfl⟩, rfl, rfl, trivial⟩
theorem shaped_len {l : List UInt8} (h : shapedB l = true) : l.length ≤ 10 := by
  unfold shapedB lenB at h; simp at h; omega
/-! ### joining parts: functions that write the result's variable -/
theorem dom1 (b0 : Nat) (x y : OBlk) : ∀ b, (olk [(b0, y)] b).isSome = true → (olk [(b0, x)] b).isSome = true := by
  intro b h
  rw [olk_cons] at h ⊢
  by_cases e : b0 = b
  · rw [if_pos e]; rfl
  · rw [if_neg e] at h; simp [olk] at h
abbrev zO (b : Nat) : List (Nat × OBlk) := [(b, ⟨23, 2, .any, [[I 0, I 0]]⟩)]
abbrev dO (b : Nat) (d : Dat) : List (Nat × OBlk) := [(b, ⟨23, 2, .any, [encD d]⟩)]
def J1 (ds : List Dat) : Dat := ds.getD 0 zD
def J2 (ds : List Dat) : Dat := ⟨0, (ds.getD 0 zD).lo - 1⟩
def J3 (ds : List Dat) : Dat := ⟨(ds.getD 0 zD).hi + 1, 1048575⟩
def J4 (ds : List Dat) : Dat := ⟨(ds.getD 0 zD).lo, (ds.getD 1 zD).hi⟩
theorem at0 {ds : List Dat} (h : 1 ≤ ds.length) : (ds.map encD)[0]? = some (encD (ds.getD 0 zD)) := by
  cases ds with
  | nil => simp at h
  | cons a r => rfl
theorem at1 {ds : List Dat} (h : 2 ≤ ds.length) : (ds.map encD)[1]? = some (encD (ds.getD 1 zD)) := by
  match ds, h with
  | a :: b :: r, _ => rfl
abbrev DT (ds : List Dat) : AV := .rsl 2 ds.length ((ds.map encD).take ds.length)
theorem j43 (b : Nat) (ds : List Dat) (h : 1 ≤ ds.length) (hok : ∀ d ∈ ds, okD d = true) : FnS Tryd.prog 43 [DT ds, .ovar b 0] (zO b) (dO b (J1 ds)) (.tup []) := by
  rw [DT, map_take_all]
  exact FnS.one (us := [D ds]) (b0 := 2) (mkS43 rfl rfl (dom1 2 _ _) ⟨⟨by omega, by omega⟩, encD (ds.getD 0 zD), at0 h, rfl, rfl, rfl, trivial⟩) rfl rfl rfl rfl
theorem j44 (b : Nat) (ds : List Dat) (h : 1 ≤ ds.length) (hok : ∀ d ∈ ds, okD d = true) : FnS Tryd.prog 44 [DT ds, .ovar b 0] (zO b) (dO b (J2 ds)) (.tup []) := by
  rw [DT, map_take_all]
  have h0 := at0 h
  have : okD (ds.getD 0 zD) = true := by
    cases ds with
    | nil => simp at h
    | cons a r => exact hok a (by simp)
  rw [okD_iff] at this
  exact FnS.one (us := [D ds]) (b0 := 2) (mkS44 rfl rfl (dom1 2 _ _) ⟨⟨by omega, by omega⟩, encD (ds.getD 0 zD), h0, _, wrap64 (by omega) (by omega), rfl, rfl, rfl, trivial⟩) rfl rfl rfl rfl
theorem j45 (b : Nat) (ds : List Dat) (h : 1 ≤ ds.length) (hok : ∀ d ∈ ds, okD d = true) : FnS Tryd.prog 45 [DT ds, .ovar b 0] (zO b) (dO b (J3 ds)) (.tup []) := by
  rw [DT, map_take_all]
  have h0 := at0 h
  have : okD (ds.getD 0 zD) = true := by
    cases ds with
    | nil => simp at h
    | cons a r => exact hok a (by simp)
  rw [okD_iff] at this
  exact FnS.one (us := [D ds]) (b0 := 2) (mkS45 rfl rfl (dom1 2 _ _) ⟨⟨by omega, by omega⟩, encD (ds.getD 0 zD), h0, _, wrap64 (by omega) (by omega), rfl, rfl, rfl, trivial⟩) rfl rfl rfl rfl
theorem j46 (b : Nat) (ds : List Dat) (h : 2 ≤ ds.length) (hok : ∀ d ∈ ds, okD d = true) : FnS Tryd.prog 46 [DT ds, .ovar b 0] (zO b) (dO b (J4 ds)) (.tup []) := by
  rw [DT, map_take_all]
  exact FnS.one (us := [D ds]) (b0 := 2) (mkS46 rfl rfl (dom1 2 _ _) ⟨⟨by omega, by omega⟩, encD (ds.getD 0 zD), at0 (by omega), ⟨by omega, by omega⟩, encD (ds.getD 1 zD), at1 h, rfl, rfl, rfl, trivial⟩) rfl rfl rfl rfl
end Go.Abs.L03
