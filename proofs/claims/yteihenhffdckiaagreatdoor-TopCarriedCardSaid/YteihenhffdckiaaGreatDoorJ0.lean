import Derived.WalkKit
section
namespace Go.Abs
/-- the functions (by their numbers in this program) that write the array of their first argument -/
def mutIds : List Nat := []
/-- the functions that write a captured variable, or the block of an argument, with the places (among arguments, then captured) that are handed over -/
def capIds : List (Nat × List Nat) := []
/-- what is known of the package-level variables' blocks -/
def WI (w : World) : Prop := True
theorem WI.mono {w w' : World} (_hs : w.heap.size ≤ w'.heap.size) (_hb : ∀ g, g < w.heap.size → w'.heap[g]? = w.heap[g]?) (h : WI w) : WI w' := h
/-- is a fresh slice among a call's results a reading, or one's own, by choice, in regions in the text's order too -/
def seeAll : Bool := true
/-- slice literals (by the type, and how many parts) that are seen only to be read -/
def litT : List (Nat × Nat) := [(24, 1), (24, 3), (24, 4), (70, 1), (71, 7), (22, 2), (23, 1), (221, 3)]
end Go.Abs
end
section
namespace Go.Abs
open Go.RowKit

inductive AV where
  | top
  | bool (b : Bool)
  | int (k : IntKind) (n : Int)
  | str (s : ByteArray)
  | nilsl
  | nilfn
  | esl
  | und
  | lit (v : Value)
  | rsl (sz n : Nat) (rows : List (List AV))
  | rptr (xs : List AV) (off : Nat)
  | osl (b sz n : Nat)
  | osuf (b sz lo n : Nat)
  | ovar (b off : Nat)
  | optr (b sz i off : Nat)
  | fsl (pure : Bool) (e sz n : Nat) (rows : List (List AV))
  | agg (xs : List AV)
  | tup (xs : List AV)
  | func (f : FuncId) (caps : List AV)
  | omap (b : Nat)
  | rmap (ag st : Bool) (sz : Nat) (rows : List (List AV))
  | itr
  | opt (d : Nat) (want : Bool) (v : AV)
  deriving Inhabited

mutual
def AV.has (b : Nat) : AV → Bool
  | .osl b' _ _ => b' == b
  | .optr b' _ _ _ => b' == b
  | .osuf b' _ _ _ => b' == b
  | .ovar b' _ => b' == b
  | .omap b' => b' == b
  | .agg xs => AV.hasL b xs
  | .tup xs => AV.hasL b xs
  | .func _ xs => AV.hasL b xs
  | .opt _ _ v => AV.has b v
  | _ => false
def AV.hasL (b : Nat) : List AV → Bool
  | [] => false
  | u :: us => AV.has b u || AV.hasL b us
end

theorem AV.hasL_of {b : Nat} : ∀ {xs : List AV} {j : Nat} {u : AV}, xs[j]? = some u → AV.has b u = true → AV.hasL b xs = true
  | [], _, _, h, _ => by simp at h
  | x :: xs, 0, u, h, hu => by simp at h; subst h; simp [AV.hasL, hu]
  | x :: xs, j + 1, u, h, hu => by simp at h; simp [AV.hasL, AV.hasL_of h hu]

/-- The block of an id and how many rows it has: 'none': none is known; 'some (none, 0)': the nil slice stands for it (no row yet); 'some (some g, m)': block g, m rows. -/
abbrev KM := Nat → Option (Option Nat × Nat)
def blkOf (K : KM) (b : Nat) : Option Nat := match K b with | some (some g, _) => some g | _ => none
theorem blkOf_of {K : KM} {b g m : Nat} (h : K b = some (some g, m)) : blkOf K b = some g := by simp [blkOf, h]
theorem blkOf_eq {K K' : KM} {b : Nat} (h : K' b = K b) : blkOf K' b = blkOf K b := by simp [blkOf, h]
def K0 : KM := fun _ => none

/-- is it a key of such a map -/
def keyFits (st : Bool) (k : AV) : Bool :=
  match k with
  | .int .i64 _ => match st with | true => false | false => true
  | .str _ => st
  | _ => false
def keyRow (st : Bool) : List AV → Bool
  | k :: _ => keyFits st k
  | [] => false
/-- the cells of a map's entry -/
def entC (e : MapEntry) : List Value := e.key :: (match e.val with | .agg vs => vs.toList | v => [v])
/-- what a map holds, entry by entry, as cells; ag: its elements are structs; st: its keys are strings, else numbers -/
structure MapIs (es : Array MapEntry) (ag st : Bool) (sz : Nat) (cs : List Value) : Prop where
  born : ∀ (i : Nat) e, es[i]? = some e → e.born = i
  agg : ∀ e ∈ es.toList, (∃ vs, e.val = .agg vs) ↔ ag = true
  key : ∀ e ∈ es.toList, (st = true → ∃ s, e.key = .string s) ∧ (st = false → ∃ n, e.key = .int .i64 n)
  len : ∀ e ∈ es.toList, (entC e).length = sz
  cells : cs = (es.toList.map entC).flatten
def MapObj (w : World) (g : Nat) (ag st : Bool) (sz : Nat) (cs : List Value) : Prop := ∃ es, w.heap[g]? = some (.map es es.size) ∧ MapIs es ag st sz cs
theorem MapObj.of_eq {w w' : World} {g sz : Nat} {ag st : Bool} {cs : List Value} (h : MapObj w g ag st sz cs) (e : w'.heap[g]? = w.heap[g]?) : MapObj w' g ag st sz cs := by
  obtain ⟨es, h1, h2⟩ := h
  exact ⟨es, e.trans h1, h2⟩

/-- A value of the machine's is what an abstract value says. X: the blocks that a reading may not lean on. -/
inductive VR (w : World) : (Nat → Prop) → KM → AV → Value → Prop
  | top {X K v} : VR w X K .top v
  | bool {X K b} : VR w X K (.bool b) (.bool b)
  | int {X K k n} : VR w X K (.int k n) (.int k n)
  | str {X K s} : VR w X K (.str s) (.string s)
  | nilsl {X K} : VR w X K .nilsl (.slice none 0 0)
  | nilfn {X K} : VR w X K .nilfn .nilFunc
  | und {X K} : VR w X K .und undef
  | lit {X K v} : VR w X K (.lit v) v
  | esl {X K A cap} : VR w X K .esl (.slice (some A) 0 cap)
  | agg {X K xs vs} : xs.length = vs.size → (∀ (j : Nat) c, vs[j]? = some c → c.oneCell' = true) → (∀ (j : Nat) u c, xs[j]? = some u → vs[j]? = some c → VR w X K u c) → VR w X K (.agg xs) (.agg vs)
  | tup {X K xs vs} : xs.length = vs.size → (∀ (j : Nat) u c, xs[j]? = some u → vs[j]? = some c → VR w X K u c) → VR w X K (.tup xs) (.tuple vs)
  | func {X K f xs vs} : xs.length = vs.size → (∀ (j : Nat) u c, xs[j]? = some u → vs[j]? = some c → VR w X K u c) → VR w X K (.func f xs) (.func (.func f) #[] vs)
  | rsl {X K sz n rows A cap} {cs : List Value} : n = rows.length → (∀ row ∈ rows, row.length = sz) → n ≤ cap → (A = none → cap = 0) → cs.length = rows.flatten.length → (∀ c ∈ cs, c.oneCell' = true) →
      (rows ≠ [] → ∃ g o, A = some ⟨g, o, none⟩ ∧ g < w.heap.size ∧ ¬ X g ∧ ∀ (j : Nat) c, cs[j]? = some c → w.cell? ⟨g, o + j, none⟩ = some c) →
      (∀ (j : Nat) u c, rows.flatten[j]? = some u → cs[j]? = some c → VR w X K0 u c) → VR w X K (.rsl sz n rows) (.slice A n cap)
  | rptr {X K xs off g o} {cs : List Value} : cs.length = xs.length → (∀ c ∈ cs, c.oneCell' = true) → g < w.heap.size → ¬ X g → (∀ (j : Nat) c, cs[j]? = some c → w.cell? ⟨g, o + j, none⟩ = some c) →
      (∀ (j : Nat) u c, xs[j]? = some u → cs[j]? = some c → VR w X K0 u c) → VR w X K (.rptr xs off) (.pointer (some ⟨g, o + off, none⟩))
  | osl {X K b sz n g m cap cur e} : K b = some (some g, m) → n ≤ m → w.heap[g]? = some (.cells cur e (0, 0)) → n ≤ cap → cap ≤ maxLen → cap * sz = cur.size → VR w X K (.osl b sz n) (.slice (some ⟨g, 0, none⟩) n cap)
  | oslnil {X K b sz} : K b = some (none, 0) → VR w X K (.osl b sz 0) (.slice none 0 0)
  | osuf {X K b sz lo n A cap} : (0 < n → ∃ g m, K b = some (some g, m) ∧ lo + n ≤ m ∧ A = some ⟨g, lo * sz, none⟩) →
      (0 < n → n ≤ cap ∧ cap ≤ maxLen ∧ ∃ g o cur e, A = some ⟨g, o, none⟩ ∧ w.heap[g]? = some (.cells cur e (0, 0)) ∧ o + cap * sz = cur.size) → VR w X K (.osuf b sz lo n) (.slice A n cap)
  | ovar {X K b off g} : blkOf K b = some g → VR w X K (.ovar b off) (.pointer (some ⟨g, off, none⟩))
  | optr {X K b sz i off g} : blkOf K b = some g → VR w X K (.optr b sz i off) (.pointer (some ⟨g, i * sz + off, none⟩))
  | omap {X K b g} : blkOf K b = some g → VR w X K (.omap b) (.map (some g))
  | rmap {X K ag st sz rows g} {cs : List Value} : MapObj w g ag st sz cs → g < w.heap.size → ¬ X g → (∀ row ∈ rows, row.length = sz ∧ keyRow st row = true) → cs.length = rows.flatten.length → (∀ c ∈ cs, c.oneCell' = true) →
      (∀ (j : Nat) u c, rows.flatten[j]? = some u → cs[j]? = some c → VR w X K0 u c) → VR w X K (.rmap ag st sz rows) (.map (some g))
  | itr {X K r g} : w.heap[r]? = some (.mapIter (some g) 0 #[] 0) → w.heap[g]? = some (.map #[] 0) → r < w.heap.size → g < w.heap.size → ¬ X r → ¬ X g → VR w X K .itr (.pointer (some ⟨r, 0, none⟩))

/-- What a step keeps: blocks outside X are as they were; blocks of cells that can be written keep their size. -/
structure Keep (X : Nat → Prop) (w w' : World) : Prop where
  size : w.heap.size ≤ w'.heap.size
  block : ∀ g, g < w.heap.size → ¬ X g → w'.heap[g]? = w.heap[g]?
  shape : ∀ (g : Nat) (cur : Array Value) (e : TypeId), w.heap[g]? = some (Obj.cells cur e (0, 0)) → ∃ cur' : Array Value, w'.heap[g]? = some (Obj.cells cur' e (0, 0)) ∧ cur'.size = cur.size

theorem Keep.refl (X : Nat → Prop) (w : World) : Keep X w w := ⟨Nat.le_refl _, fun _ _ _ => rfl, fun _ cur _ h => ⟨cur, h, rfl⟩⟩
theorem Keep.trans {X X' : Nat → Prop} {a b c : World} (h : Keep X a b) (k : Keep X' b c) (hX : ∀ g, g < a.heap.size → X' g → X g) : Keep X a c :=
  ⟨Nat.le_trans h.size k.size, fun g hg hx => (k.block g (Nat.lt_of_lt_of_le hg h.size) (fun hx' => hx (hX g hg hx'))).trans (h.block g hg hx),
   fun g cur e hc => by
    obtain ⟨c1, h1, s1⟩ := h.shape g cur e hc
    obtain ⟨c2, h2, s2⟩ := k.shape g c1 e h1
    exact ⟨c2, h2, s2.trans s1⟩⟩

theorem cell_of_block {w w' : World} {g o : Nat} (h : w'.heap[g]? = w.heap[g]?) : w'.cell? ⟨g, o, none⟩ = w.cell? ⟨g, o, none⟩ := by
  simp only [World.cell?, h]

theorem VR.keep {X : Nat → Prop} {w w' : World} {K : KM} {u : AV} {v : Value} (h : VR w X K u v) :
    ∀ {X' : Nat → Prop} {K' : KM}, Keep X w w' → (∀ g, g < w.heap.size → X' g → X g) → (∀ b, u.has b = true → K' b = K b) → VR w' X' K' u v := by
  induction h with
  | top => intros; exact .top
  | bool => intros; exact .bool
  | int => intros; exact .int
  | str => intros; exact .str
  | nilsl => intros; exact .nilsl
  | nilfn => intros; exact .nilfn
  | esl => intros; exact .esl
  | und => intros; exact .und
  | lit => intros; exact .lit
  | agg hl h1 hv ih => intro X' K' hk hX hK; exact .agg hl h1 fun j u c hu hc => ih j u c hu hc hk hX fun b hb => hK b (AV.hasL_of hu hb)
  | tup hl hv ih => intro X' K' hk hX hK; exact .tup hl fun j u c hu hc => ih j u c hu hc hk hX fun b hb => hK b (AV.hasL_of hu hb)
  | func hl hv ih => intro X' K' hk hX hK; exact .func hl fun j u c hu hc => ih j u c hu hc hk hX fun b hb => hK b (AV.hasL_of hu hb)
  | rsl hn hsz hcap hA hcs h1 hcell hv ih =>
    intro X' K' hk hX hK
    refine .rsl hn hsz hcap hA hcs h1 (fun hne => ?_) (fun j u c hu hc => ih j u c hu hc hk hX fun b _ => rfl)
    obtain ⟨g, o, e, hg, hx, hc⟩ := hcell hne
    exact ⟨g, o, e, Nat.lt_of_lt_of_le hg hk.size, fun hx' => hx (hX g hg hx'), fun j c hj => (cell_of_block (hk.block g hg hx)).trans (hc j c hj)⟩
  | rptr hcs h1 hg hx hc hv ih =>
    intro X' K' hk hX hK
    exact .rptr hcs h1 (Nat.lt_of_lt_of_le hg hk.size) (fun hx' => hx (hX _ hg hx')) (fun j c hj => (cell_of_block (hk.block _ hg hx)).trans (hc j c hj)) (fun j u c hu hc => ih j u c hu hc hk hX fun b _ => rfl)
  | osl hKb hnm hc hn hm hcap =>
    intro X' K' hk hX hK
    obtain ⟨cur', h1, h2⟩ := hk.shape _ _ _ hc
    exact .osl ((hK _ (by simp [AV.has])).trans hKb) hnm h1 hn hm (by rw [h2]; exact hcap)
  | oslnil hKb => intro X' K' hk hX hK; exact .oslnil ((hK _ (by simp [AV.has])).trans hKb)
  | osuf hn hc => intro X' K' hk hX hK; exact .osuf (fun h => (by obtain ⟨g, m, h1, h2⟩ := hn h; exact ⟨g, m, (hK _ (by simp [AV.has])).trans h1, h2⟩)) (fun h => (by
      obtain ⟨h1, h2, g, o, cur, e, h3, h4, h5⟩ := hc h
      obtain ⟨cur', h6, h7⟩ := hk.shape _ _ _ h4
      exact ⟨h1, h2, g, o, cur', e, h3, h6, by rw [h7]; exact h5⟩))
  | ovar hKb => intro X' K' hk hX hK; exact .ovar ((blkOf_eq (hK _ (by simp [AV.has]))).trans hKb)
  | optr hKb => intro X' K' hk hX hK; exact .optr ((blkOf_eq (hK _ (by simp [AV.has]))).trans hKb)
  | omap hKb => intro X' K' hk hX hK; exact .omap ((blkOf_eq (hK _ (by simp [AV.has]))).trans hKb)
  | rmap hm hg hx hsz hl h1 hv ih => intro X' K' hk hX hK; exact .rmap (hm.of_eq (hk.block _ hg hx)) (Nat.lt_of_lt_of_le hg hk.size) (fun hx' => hx (hX _ hg hx')) hsz hl h1 (fun j u c hu hc => ih j u c hu hc hk hX fun b _ => rfl)
  | itr h1 h2 h3 h4 h5 h6 => intro X' K' hk hX hK; exact .itr ((hk.block _ h3 h5).trans h1) ((hk.block _ h4 h6).trans h2) (Nat.lt_of_lt_of_le h3 hk.size) (Nat.lt_of_lt_of_le h4 hk.size) (fun hx' => h5 (hX _ h3 hx')) (fun hx' => h6 (hX _ h4 hx'))

theorem VR.sub {X X' : Nat → Prop} {w : World} {K : KM} {u : AV} {v : Value} (h : VR w X K u v) (hX : ∀ g, g < w.heap.size → X' g → X g) : VR w X' K u v :=
  h.keep (Keep.refl X w) hX (fun _ _ => rfl)

/-- What has no id holds under whatever map. -/
theorem VR.any {X : Nat → Prop} {w : World} {u : AV} {v : Value} (h : VR w X K0 u v) : ∀ K, VR w X K u v := by
  suffices ∀ {X K' u v}, VR w X K' u v → K' = K0 → ∀ K, VR w X K u v from fun K => this h rfl K
  intro X K' u v h
  induction h with
  | top => intros; exact .top
  | bool => intros; exact .bool
  | int => intros; exact .int
  | str => intros; exact .str
  | nilsl => intros; exact .nilsl
  | nilfn => intros; exact .nilfn
  | esl => intros; exact .esl
  | und => intros; exact .und
  | lit => intros; exact .lit
  | agg hl h1 hv ih => intro e K; exact .agg hl h1 fun j u c hu hc => ih j u c hu hc e K
  | tup hl hv ih => intro e K; exact .tup hl fun j u c hu hc => ih j u c hu hc e K
  | func hl hv ih => intro e K; exact .func hl fun j u c hu hc => ih j u c hu hc e K
  | rsl hn hsz hcap hA hcs h1 hcell hv ih => intro e K; exact .rsl hn hsz hcap hA hcs h1 hcell hv
  | rptr hcs h1 hg hx hc hv ih => intro e K; exact .rptr hcs h1 hg hx hc hv
  | osl hKb hnm hc hn hm hcap => intro e K; subst e; simp [K0] at hKb
  | oslnil hKb => intro e K; subst e; simp [K0] at hKb
  | osuf hn hc => intro e K; subst e; exact .osuf (fun h => (by obtain ⟨g, m, h1, _⟩ := hn h; simp [K0] at h1)) hc
  | ovar hKb => intro e K; subst e; simp [K0, blkOf] at hKb
  | optr hKb => intro e K; subst e; simp [K0, blkOf] at hKb
  | omap hKb => intro e K; subst e; simp [K0, blkOf] at hKb
  | rmap hm hg hx hsz hl h1 hv ih => intro e K; exact .rmap hm hg hx hsz hl h1 hv
  | itr h1 h2 h3 h4 h5 h6 => intro e K; exact .itr h1 h2 h3 h4 h5 h6
end Go.Abs
end
