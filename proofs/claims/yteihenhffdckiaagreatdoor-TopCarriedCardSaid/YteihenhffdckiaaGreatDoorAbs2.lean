import Derived.Test.YteihenhffdckiaaGreatDoorJ0
namespace Go.Abs
open Go.RowKit

/-- What an owned block's cells may hold: plain values alone; readings too, but no ids; anything. -/
inductive Kd where | pure | flat | any | map (ag st : Bool)
  deriving DecidableEq, Inhabited

structure OBlk where
  e : Nat
  sz : Nat
  kd : Kd
  rows : List (List AV)
  ents : List (List AV) := []   -- a map's entries
  deriving Inhabited

structure Cfg where
  fr : List (Nat × AV)
  O : List (Nat × OBlk)
  deriving Inhabited

def lk : List (Nat × AV) → Nat → AV
  | [], _ => .top
  | (t, v) :: r, s => match Nat.beq t s with | true => v | false => lk r s
def olk : List (Nat × OBlk) → Nat → Option OBlk
  | [], _ => none
  | (t, v) :: r, s => match Nat.beq t s with | true => some v | false => olk r s

inductive TyK where
  | int (k : IntKind) | bool | str | slice (e : Nat) | struct (fs : List (Nat × Nat)) | array (n e : Nat) | map (k e : Nat) | other
  deriving DecidableEq, Inhabited
def TyK.of : TypeDesc → TyK
  | .int k => .int k
  | .bool => .bool
  | .string => .str
  | .slice e => .slice e
  | .struct fs => .struct (fs.toList.map fun f => (f.offset, f.type))
  | .array n e => .array n e
  | .map k e => .map k e
  | _ => .other
def TyK.isAgg : TyK → Bool
  | .struct _ => true
  | .array _ _ => true
  | _ => false
/-- the kind of a cell that '==' is reckoned on -/
inductive CK where | i (k : IntKind) | b | s
structure TyI where
  k : TyK
  size : Nat
  bytes : Nat
  zero : Value
  eq : List CK := []
abbrev Tab := List (Nat × TyI)
def Tab.get : Tab → Nat → Option TyI
  | [], _ => none
  | (t, v) :: r, s => match Nat.beq t s with | true => some v | false => Tab.get r s

def AV.ofCell : Value → AV
  | .bool b => .bool b
  | .int k n => .int k n
  | .string s => .str s
  | .slice none 0 0 => .nilsl
  | .nilFunc => .nilfn
  | .map none => .lit (.map none)
  | _ => .top
def AV.ofVal : Value → AV
  | .agg cs => .agg (cs.toList.map AV.ofCell)
  | v => AV.ofCell v

/-- a constant whose cells are one cell each -/
def oneCells : Value → Bool
  | .agg cs => cs.toList.all (·.oneCell')
  | _ => true

def AV.scalar : AV → Bool
  | .bool _ => true
  | .int _ _ => true
  | .str _ => true
  | .nilsl => true
  | .nilfn => true
  | _ => false
mutual
/-- no id in it -/
def AV.idless : AV → Bool
  | .osl _ _ _ => false
  | .osuf _ _ _ _ => false
  | .ovar _ _ => false
  | .omap _ => false
  | .optr _ _ _ _ => false
  | .fsl _ _ _ _ _ => false
  | .opt _ _ _ => false
  | .agg xs => AV.idlessL xs
  | .tup xs => AV.idlessL xs
  | .func _ xs => AV.idlessL xs
  | _ => true
def AV.idlessL : List AV → Bool
  | [] => true
  | u :: us => AV.idless u && AV.idlessL us
end
/-- a result that leans on no memory but a fresh slice's own -/
def AV.xfreeL : List AV → Bool
  | [] => true
  | u :: us => u.scalar && AV.xfreeL us
/-- plain values, or what nothing is said of -/
def AV.xfreeT : List AV → Bool
  | [] => true
  | .top :: us => AV.xfreeT us
  | u :: us => u.scalar && AV.xfreeT us
def AV.xfree1 : AV → Bool
  | .fsl p _ _ _ _ => p
  | .agg xs => AV.xfreeT xs
  | v => v.scalar
def AV.xfree : AV → Bool
  | .tup [] => true
  | .tup (x :: xs) => x.xfree1 && AV.xfreeL xs
  | v => v.xfree1
/-- beside a fresh slice a tuple holds plain values alone -/
def okTup : AV → Bool
  | .tup (.fsl _ _ _ _ _ :: xs) => AV.xfreeL xs
  | _ => true
def Kd.fits : Kd → AV → Bool
  | .pure, u => u.scalar
  | .flat, u => u.idless
  | .any, u => match u with | .opt _ _ _ => false | .fsl _ _ _ _ _ => false | .agg _ => false | .tup _ => false | _ => true
  | .map _ _, _ => false

structure Res where
  v : AV
  D : List (Nat × OBlk) := []
  pg : Option Nat := none
  nw : Bool := false

inductive Ans where
  | no
  | ret (r : Res)
  | need (p : Prop) (a : Ans)
  | exI (k : Int → Ans)
  | exR (k : List AV → Ans)
  | exB (k : Bool → Ans)
  | call (f : FuncId) (args : List AV) (k : AV → Ans)
  | callM (f : FuncId) (e sz : Nat) (rows : List (List AV)) (args : List AV) (k : AV → Ans)
  | callS (f : FuncId) (args : List AV) (O : List (Nat × OBlk)) (k : List (Nat × OBlk) → AV → Ans)

def litC : Value → Option (List AV)
  | .map none => some [.lit (.map none)]
  | _ => none
theorem litC_some {v : Value} {cs : List AV} (h : litC v = some cs) : v = .map none ∧ cs = [.lit (.map none)] := by
  unfold litC at h
  split at h
  · injection h with h; exact ⟨rfl, h.symm⟩
  · cases h
def AV.cellsOf : AV → Option (List AV)
  | .agg xs => some xs
  | .top => none
  | .und => none
  | .lit v => litC v
  | .osuf _ _ _ _ => none
  | .tup _ => none
  | .opt _ _ _ => none
  | .fsl _ _ _ _ _ => none
  | v => some [v]

def takeE : Nat → List AV → Option (List AV)
  | 0, _ => some []
  | _ + 1, [] => none
  | n + 1, x :: xs => match takeE n xs with | some ys => some (x :: ys) | none => none
def dropE : Nat → List AV → Option (List AV)
  | 0, xs => some xs
  | _ + 1, [] => none
  | n + 1, _ :: xs => dropE n xs
/-- part of a row as a value of a type -/
def readAt (i : TyI) (row : List AV) (off : Nat) : Option AV :=
  match dropE off row with
  | none => none
  | some ys => match i.k.isAgg with
    | true => match takeE i.size ys with | some zs => some (.agg zs) | none => none
    | false => match ys with | y :: _ => some y | [] => none
def spliceE : Nat → List AV → List AV → Option (List AV)
  | _, [], ys => some ys
  | 0, x :: xs, _ :: ys => match spliceE 0 xs ys with | some r => some (x :: r) | none => none
  | 0, _ :: _, [] => none
  | n + 1, xs, y :: ys => match spliceE n xs ys with | some r => some (y :: r) | none => none
  | _ + 1, _ :: _, [] => none
def allFit (kd : Kd) : List AV → Bool
  | [] => true
  | x :: xs => kd.fits x && allFit kd xs

def AV.noopt : AV → AV
  | .opt _ _ _ => .top
  | v => v
def AV.strip (d : Nat) (want : Bool) : AV → AV
  | .opt d' w' v => match Nat.beq d d', w', want with
    | true, true, true => v
    | true, false, false => v
    | _, _, _ => .opt d' w' v
  | v => v
def wrapI (k : IntKind) (n : Int) (f : Int → Ans) : Ans := .exI fun m => .need (k.wrap n = m) (f m)
def retV (v : AV) : Ans := .ret { v := v }

def binInt (op : BinOp) (k : IntKind) (a b : Int) : Ans :=
  match op with
  | .add => wrapI k (a + b) fun m => retV (.int k m)
  | .sub => wrapI k (a - b) fun m => retV (.int k m)
  | .mul => wrapI k (a * b) fun m => retV (.int k m)
  | .quo => .need (b ≠ 0) (wrapI k (a.tdiv b) fun m => retV (.int k m))
  | .rem => .need (b ≠ 0) (retV (.int k (a.tmod b)))
  | .eql => retV (.bool (a == b))
  | .neq => retV (.bool (a != b))
  | .lss => retV (.bool (decide (a < b)))
  | .leq => retV (.bool (decide (a ≤ b)))
  | .gtr => retV (.bool (decide (a > b)))
  | .geq => retV (.bool (decide (a ≥ b)))
  | .shl => .need (0 ≤ b ∧ b ≤ k.bits) (wrapI k (a * 2 ^ b.toNat) fun m => retV (.int k m))
  | .shr => .need (0 ≤ b ∧ b ≤ k.bits) (retV (.int k (a / 2 ^ b.toNat)))
  | .and => .exI fun m => .need (bits .and k a b = m) (retV (.int k m))
  | .or => .exI fun m => .need (bits .or k a b = m) (retV (.int k m))
  | .xor => .exI fun m => .need (bits .xor k a b = m) (retV (.int k m))
  | .andNot => .exI fun m => .need (bits .andNot k a b = m) (retV (.int k m))
/-- a shift by a number of another kind -/
def shiftI (op : BinOp) (k : IntKind) (a b : Int) : Ans :=
  match op with
  | .shl => .need (0 ≤ b ∧ b ≤ k.bits) (wrapI k (a * 2 ^ b.toNat) fun m => retV (.int k m))
  | .shr => .need (0 ≤ b ∧ b ≤ k.bits) (retV (.int k (a / 2 ^ b.toNat)))
  | _ => .no
def kindEq (a b : IntKind) : Bool := decide (a = b)
def CK.fits : CK → AV → Bool
  | .i k, .int k' _ => kindEq k k'
  | .b, .bool _ => true
  | .s, .str _ => true
  | _, _ => false
def fitsCK : List CK → List AV → Bool
  | [], [] => true
  | c :: cs, u :: us => c.fits u && fitsCK cs us
  | _, _ => false
def eqC : AV → AV → Bool
  | .int _ a, .int _ b => a == b
  | .bool a, .bool b => a == b
  | .str a, .str b => a.toList == b.toList
  | _, _ => false
def eqL : List AV → List AV → Bool
  | x :: xs, y :: ys => eqC x y && eqL xs ys
  | _, _ => true
def eqOK : List CK → List AV → List AV → Bool
  | [], _, _ => false
  | cks, xs, ys => fitsCK cks xs && fitsCK cks ys

def binAV (T : Tab) (op : BinOp) (t : Nat) (x y : AV) : Ans :=
  match x, y with
  | .int k a, .int k' b => match kindEq k k' with | true => binInt op k a b | false => shiftI op k a b
  | .bool a, .bool b => match T.get t with
    | some i => match i.k, op with
      | .bool, .eql => retV (.bool (a == b))
      | .bool, .neq => retV (.bool (a != b))
      | _, _ => .no
    | none => .no
  | .agg xs, .agg ys => match T.get t with
    | some i => match eqOK i.eq xs ys, op with
      | true, .eql => retV (.bool (eqL xs ys))
      | true, .neq => retV (.bool (!eqL xs ys))
      | _, _ => .no
    | none => .no
  | .str a, .str b => match op with
    | .add => .need (a.size + b.size ≤ 9223372036854775807) (retV (.str (a ++ b)))
    | .eql => retV (.bool (a.toList == b.toList))
    | .neq => retV (.bool !(a.toList == b.toList))
    | _ => .no
  | .nilsl, .nilsl => match T.get t with
    | some i => match i.k, op with
      | .slice _, .eql => retV (.bool true)
      | .slice _, .neq => retV (.bool false)
      | _, _ => .no
    | none => .no
  | .esl, .nilsl => match T.get t with
    | some i => match i.k, op with
      | .slice _, .eql => retV (.bool false)
      | .slice _, .neq => retV (.bool true)
      | _, _ => .no
    | none => .no
  | .rsl _ n _, .nilsl => match T.get t with
    | some i => match i.k, op with
      | .slice _, .eql => .need (0 < n) (retV (.bool false))
      | .slice _, .neq => .need (0 < n) (retV (.bool true))
      | _, _ => .no
    | none => .no
  | .osl _ _ n, .nilsl => match T.get t with
    | some i => match i.k, op with
      | .slice _, .eql => .need (0 < n) (retV (.bool false))
      | .slice _, .neq => .need (0 < n) (retV (.bool true))
      | _, _ => .no
    | none => .no
  | _, _ => .no

/-- blocks of cells alone -/
def cellsOnly (own : Nat → Option OBlk) (b : Nat) : Option OBlk :=
  match own b with
  | some blk => match blk.kd with
    | .map _ _ => none
    | _ => some blk
  | none => none
/-! maps: a row is a key, then the element's cells -/
def keyEq : AV → AV → Bool
  | .int _ a, .int _ b => a == b
  | .str a, .str b => a == b
  | _, _ => false
def mget (key : AV) : List (List AV) → Option (List AV)
  | [] => none
  | [] :: r => mget key r
  | (k :: cs) :: r => match keyEq key k with | true => some cs | false => mget key r
def midx (key : AV) : List (List AV) → Nat
  | [] => 0
  | [] :: r => midx key r + 1
  | (k :: cs) :: r => match keyEq key k with | true => 0 | false => midx key r + 1
def mput (key : AV) (v : List AV) : List (List AV) → List (List AV)
  | [] => [key :: v]
  | [] :: r => [] :: mput key v r
  | (k :: cs) :: r => match keyEq key k with | true => (key :: v) :: r | false => (k :: cs) :: mput key v r
def mensure (key : AV) (z : List AV) : List (List AV) → List (List AV)
  | [] => [key :: z]
  | [] :: r => [] :: mensure key z r
  | (k :: cs) :: r => match keyEq key k with | true => (key :: cs) :: r | false => (k :: cs) :: mensure key z r
def mset (v : List AV) : Nat → List (List AV) → List (List AV)
  | _, [] => []
  | 0, row :: r => (row.take 1 ++ v) :: r
  | n + 1, row :: r => row :: mset v n r
def keyTy (st : Bool) (t : TyK) : Bool :=
  match t with
  | .int .i64 => match st with | true => false | false => true
  | .str => st
  | _ => false
def elemOf (ag : Bool) (cs : List AV) : Option AV :=
  match ag with
  | true => some (.agg cs)
  | false => match cs with | [u] => some u | _ => none
def isAggV : AV → Bool
  | .agg _ => true
  | _ => false
def eqBB : Bool → Bool → Bool
  | true, true => true
  | false, false => true
  | _, _ => false

/-- the id of the k-th part of what an operation with destination d makes -/
def idOf (d : Option Nat) (k : Nat) : Nat := match d with | some d => 16 * d + k | none => 0

def viewCell (own : Nat → Option OBlk) : AV → Option AV
  | .osl b sz n => match own b with
    | some blk => match Nat.beq sz blk.sz, blk.kd with
      | true, .pure => some (.rsl sz n (blk.rows.take n))
      | true, .flat => some (.rsl sz n (blk.rows.take n))
      | _, _ => none
    | none => none
  | .omap b => match own b with
    | some blk => match blk.kd with
      | .map ag st => some (.rmap ag st blk.sz blk.ents)
      | _ => none
    | none => none
  | .ovar _ _ => none
  | .optr _ _ _ _ => none
  | .opt _ _ _ => none
  | .fsl _ _ _ _ _ => none
  | v => match v.idless with | true => some v | false => none
def viewCells (own : Nat → Option OBlk) : List AV → Option (List AV)
  | [] => some []
  | x :: xs => match viewCell own x, viewCells own xs with
    | some y, some ys => some (y :: ys)
    | _, _ => none
def viewRows (own : Nat → Option OBlk) : List (List AV) → Option (List (List AV))
  | [] => some []
  | x :: xs => match viewCells own x, viewRows own xs with
    | some y, some ys => some (y :: ys)
    | _, _ => none
def view1 (own : Nat → Option OBlk) : AV → Option AV
  | .osl b sz n => match own b with
    | some blk => match blk.kd with
      | .any => match Nat.beq sz blk.sz, viewRows own (blk.rows.take n) with
        | true, some rs => some (.rsl sz n rs)
        | _, _ => none
      | _ => viewCell own (.osl b sz n)
    | none => none
  | .ovar b off => match own b with
    | some blk => match blk.kd, blk.rows with
      | .any, [row] => match viewCells own row with | some r => some (.rptr r off) | none => none
      | _, _ => none
    | none => none
  | .agg xs => match viewCells own xs with | some ys => some (.agg ys) | none => none
  | v => viewCell own v
def views1 (own : Nat → Option OBlk) : List AV → Option (List AV)
  | [] => some []
  | x :: xs => match view1 own x, views1 own xs with
    | some y, some ys => some (y :: ys)
    | _, _ => none
def view (own : Nat → Option OBlk) : AV → Option AV
  | .func f caps => match views1 own caps with | some cs => some (.func f cs) | none => none
  | v => view1 own v
def views (own : Nat → Option OBlk) : List AV → Option (List AV)
  | [] => some []
  | x :: xs => match view own x, views own xs with
    | some y, some ys => some (y :: ys)
    | _, _ => none

def kdP : Bool → Kd
  | true => .pure
  | false => .flat
/-- a fresh slice among a call's results becomes a block of one's own -/
def adopt1 (id : Nat) : AV → AV × List (Nat × OBlk)
  | .fsl p e sz n rows => (.osl id sz n, [(id, { e := e, sz := sz, kd := kdP p, rows := rows })])
  | v => (v, [])
/-- the same, only to be read -/
def seen1 : AV → AV
  | .fsl _ _ sz n rows => .rsl sz n rows
  | v => v
def isF : AV → Bool
  | .fsl _ _ _ _ _ => true
  | .tup (.fsl _ _ _ _ _ :: _) => true
  | _ => false
def adopt (dr : Bool) (d : Option Nat) (x : AV) : Res :=
  match dr, x with
  | false, .tup (x :: xs) => { v := .tup ((adopt1 (idOf d 0) x).1 :: xs), D := (adopt1 (idOf d 0) x).2, nw := true }
  | false, v => { v := (adopt1 (idOf d 0) v).1, D := (adopt1 (idOf d 0) v).2, nw := true }
  | true, .tup (x :: xs) => { v := .tup (seen1 x :: xs) }
  | true, v => { v := seen1 v }

def ptrAdd (x : AV) (k : Nat) : Option AV :=
  match x with
  | .rptr xs o => some (.rptr xs (o + k))
  | .ovar b o => some (.ovar b (o + k))
  | .optr b sz i o => some (.optr b sz i (o + k))
  | _ => none

def loadA (i : TyI) (own : Nat → Option OBlk) (x : AV) : Ans :=
  match x with
  | .rptr xs off => match readAt i xs off with | some v => retV v | none => .no
  | .ovar b off => match own b with
    | some blk => match blk.rows with
      | [row] => match readAt i row off with | some v => retV v | none => .no
      | _ => .no
    | none => .no
  | .optr b sz k off => match own b with
    | some blk => match Nat.beq sz blk.sz with
      | true => .exR fun row => .need (blk.rows[k]? = some row) (match readAt i row off with | some v => retV v | none => .no)
      | false => .no
    | none => .no
  | _ => .no
def storeA (i : TyI) (own : Nat → Option OBlk) (x v : AV) : Ans :=
  match v.cellsOf with
  | none => .no
  | some cs => match Nat.beq cs.length i.size with
    | false => .no
    | true => match x with
      | .ovar b off => match own b with
        | some blk => match blk.rows, allFit blk.kd cs with
          | [row], true => match spliceE off cs row with | some r => .ret { v := .top, D := [(b, { blk with rows := [r] })] } | none => .no
          | _, _ => .no
        | none => .no
      | .optr b sz k off => match own b with
        | some blk => match Nat.beq sz blk.sz, allFit blk.kd cs with
          | true, true => .exR fun row => .need (blk.rows[k]? = some row) (match spliceE off cs row with | some r => .ret { v := .top, D := [(b, { blk with rows := blk.rows.set k r })] } | none => .no)
          | _, _ => .no
        | none => .no
      | _ => .no

/-- the rows that an append adds -/
def srcRows (own : Nat → Option OBlk) (esz : Nat) : AV → Option (Nat × List (List AV) × Kd)
  | .nilsl => some (0, [], .pure)
  | .esl => some (0, [], .pure)
  | .rsl sz n rows => match Nat.beq sz esz with | true => some (n, rows, .flat) | false => none
  | .osl b sz n => match own b with
    | some blk => match Nat.beq sz esz, Nat.beq blk.sz esz with
      | true, true => some (n, blk.rows.take n, blk.kd)
      | _, _ => none
    | none => none
  | _ => none
def Scal (rows : List (List AV)) : Prop := ∀ row ∈ rows, ∀ u ∈ row, u.scalar = true
/-- a row of kind 'tk' takes what is of kind 'sk' -/
def takesKd (tk sk : Kd) (rows : List (List AV)) (a : Ans) : Ans :=
  match tk, sk with
  | .pure, .pure => a
  | .pure, .flat => .need (Scal rows) a
  | .flat, .pure => a
  | .flat, .flat => a
  | .any, .any => a
  | _, _ => .no
/-- rows with ids are appended only where the row gets an id of its own -/
def anyOK (dr : Bool) (kd : Kd) : Bool :=
  match dr, kd with
  | false, .any => false
  | _, _ => true
def appendA (dr : Bool) (T : Tab) (own : Nat → Option OBlk) (dst : Option Nat) (t : Nat) (s x : AV) : Ans :=
  match T.get t with
  | some ti => match ti.k with
    | .slice e => match T.get e with
      | some ei => match srcRows own ei.size x, Nat.ble 1 ei.size with
        | some (m, rows, kd), true => match s with
          | .nilsl => .need (m * ei.bytes ≤ 140737488355328 ∧ m ≤ 9223372036854775807) (.exB fun p => match p with
            | true => takesKd .pure kd rows (.ret { v := .osl (idOf dst 0) ei.size m, D := [(idOf dst 0, { e := e, sz := ei.size, kd := .pure, rows := rows })], nw := true })
            | false => takesKd .flat kd rows (.ret { v := .osl (idOf dst 0) ei.size m, D := [(idOf dst 0, { e := e, sz := ei.size, kd := .flat, rows := rows })], nw := true }))
          | .osl b sz n => match own b with
            | some blk => match Nat.beq sz ei.size && Nat.ble (b % 16) 1 && anyOK dr blk.kd, Nat.beq blk.sz ei.size, Nat.beq blk.e e with
              | true, true, true => .need ((n + m) * ei.bytes ≤ 140737488355328 ∧ n + m ≤ 9223372036854775807) (takesKd blk.kd kd rows (.ret (match dr with
                | false => { v := .osl b sz (n + m), D := [(b, { blk with rows := blk.rows.take n ++ rows, ents := [] })], pg := some b }
                | true => { v := .osl (idOf dst 0) sz (n + m), D := [(idOf dst 0, { blk with rows := blk.rows.take n ++ rows, ents := [] })], pg := some b, nw := true })))
              | _, _, _ => .no
            | none => .no
          | _ => .no
        | _, _ => .no
      | none => .no
    | _ => .no
  | none => .no

def isSuf : AV → Bool
  | .osuf _ _ _ _ => true
  | _ => false
/-- later rows of a block are put behind its first ones, in place -/
def appSelfA (T : Tab) (own : Nat → Option OBlk) (t : Nat) (s x : AV) : Ans :=
  match T.get t with
  | some ti => match ti.k with
    | .slice e => match T.get e with
      | some ei => match s, x with
        | .osl b sz n, .osuf b' sz' lo m => match own b with
          | some blk => match Nat.beq b b', Nat.beq sz sz', Nat.beq sz blk.sz with
            | true, true, true => match Nat.beq sz ei.size, Nat.beq blk.e e, Nat.ble 1 sz with
              | true, true, true => .need (n ≤ lo ∧ lo + m ≤ blk.rows.length) (.ret { v := .osl b sz (n + m), D := [(b, { blk with rows := blk.rows.take n ++ (blk.rows.drop lo).take m ++ blk.rows.drop (n + m) })] })
              | _, _, _ => .no
            | _, _, _ => .no
          | none => .no
        | _, _ => .no
      | none => .no
    | _ => .no
  | none => .no

/-- where a copy goes: block, size, first row, how many rows -/
def dstOf : AV → Option (Nat × Nat × Nat × Nat)
  | .osl b sz n => some (b, sz, 0, n)
  | .osuf b sz lo n => some (b, sz, lo, n)
  | _ => none
/-- rows are copied into a block of one's own -/
def copyA (T : Tab) (own : Nat → Option OBlk) (t : Nat) (d s : AV) : Ans :=
  match T.get t with
  | some ti => match ti.k with
    | .slice e => match T.get e with
      | some ei => match dstOf d, Nat.beq ei.size 1 with
        | some (b, sz, lo, m), true => match own b, srcRows own 1 s with
          | some blk, some (n, rows, kd) => match blk.kd, Nat.beq sz 1, Nat.beq blk.sz 1, Nat.beq blk.e e with
            | .pure, true, true, true => .need (lo + m ≤ blk.rows.length ∧ 1 ≤ m ∧ 1 ≤ n) (takesKd .pure kd rows (.ret { v := .int .i64 ((min n m : Nat) : Int), D := [(b, { blk with rows := blk.rows.take lo ++ rows.take (min n m) ++ blk.rows.drop (lo + min n m) })] }))
            | _, _, _, _ => .no
          | _, _ => .no
        | _, _ => .no
      | none => .no
    | _ => .no
  | none => .no
/-- the last rows of a block are made zero -/
def clearA (T : Tab) (own : Nat → Option OBlk) (t : Nat) (x : AV) : Ans :=
  match T.get t with
  | some ti => match ti.k with
    | .slice e => match T.get e with
      | some ei => match x with
        | .osuf b sz lo n => match own b with
          | some blk => match Nat.beq sz blk.sz, Nat.beq sz ei.size, (AV.ofVal ei.zero).cellsOf with
            | true, true, some z => match Nat.beq z.length sz, Nat.ble 1 sz, allFit blk.kd z with
              | true, true, true => .need (lo + n ≤ blk.rows.length) (.ret { v := .top, D := [(b, { blk with rows := blk.rows.take lo ++ List.replicate n z ++ blk.rows.drop (lo + n) })] })
              | _, _, _ => .no
            | _, _, _ => .no
          | none => .no
        | _ => .no
      | none => .no
    | _ => .no
  | none => .no

def minI (x y : Int) : Int := if y < x then y else x
def maxI (x y : Int) : Int := if y > x then y else x
def foldI (f : Int → Int → Int) (k : IntKind) (a : Int) : List AV → Option Int
  | [] => some a
  | .int k' b :: r => match kindEq k k' with | true => foldI f k (f a b) r | false => none
  | _ => none

def fillE (place : Nat → Option (Nat × Nat)) (val : Operand → AV) : List (Nat × Operand) → List AV → Option (List AV)
  | [], row => some row
  | (i, x) :: r, row => match place i with
    | none => none
    | some (off, size) => match (val x).cellsOf with
      | none => none
      | some cs => match Nat.beq cs.length size, Nat.ble (off + cs.length) row.length with
        | true, true => match spliceE off cs row with
          | some row' => fillE place val r row'
          | none => none
        | _, _ => none

def fieldPlaceE (T : Tab) (fs : List (Nat × Nat)) (i : Nat) : Option (Nat × Nat) :=
  match fs[i]? with
  | some (off, t) => match T.get t with | some ti => some (off, ti.size) | none => none
  | none => none

def placesE (T : Tab) : List (Nat × Nat) → Option (List (Nat × Nat))
  | [] => some []
  | (off, t) :: r => match T.get t, placesE T r with
    | some ti, some ps => some ((off, ti.size) :: ps)
    | _, _ => none

def chunk (sz : Nat) : Nat → List AV → List (List AV)
  | 0, _ => []
  | n + 1, xs => xs.take sz :: chunk sz n (xs.drop sz)

def kdOf (rows : List (List AV)) : Kd :=
  match rows.all (allFit .pure) with
  | true => .pure
  | false => match rows.all (allFit .flat) with | true => .flat | false => .any

def sliceA (T : Tab) (t : Nat) (x : AV) (lo hi : Option AV) : Ans :=
  match T.get t with
  | some ti => match ti.k with
    | .slice e => match T.get e with
      | some ei => match x, lo, hi with
        | .rsl sz n rows, none, some (.int _ h) => match Nat.beq sz ei.size with
          | true => .need (0 ≤ h ∧ h ≤ n) (retV (.rsl sz h.toNat (rows.take h.toNat)))
          | false => .no
        | .rsl sz n rows, some (.int _ l), none => match Nat.beq sz ei.size with
          | true => .need (0 ≤ l ∧ l ≤ n) (retV (.rsl sz (n - l.toNat) (rows.drop l.toNat)))
          | false => .no
        | .osl b sz n, none, some (.int _ h) => match Nat.beq sz ei.size with
          | true => .need (0 ≤ h ∧ h ≤ n) (retV (.osl b sz h.toNat))
          | false => .no
        | .osl b sz n, some (.int _ l), none => match Nat.beq sz ei.size with
          | true => .need (0 ≤ l ∧ l ≤ n) (retV (.osuf b sz l.toNat (n - l.toNat)))
          | false => .no
        | .osuf b sz lo0 n, some (.int _ l), none => match Nat.beq sz ei.size with
          | true => .need (0 ≤ l ∧ l ≤ n ∧ 0 < n) (retV (.osuf b sz (lo0 + l.toNat) (n - l.toNat)))
          | false => .no
        | _, _, _ => .no
      | none => .no
    | _ => .no
  | none => .no
def isCut : AV → Option AV → Option AV → Bool
  | .osl _ _ _, some _, some _ => true
  | _, _, _ => false
/-- rows of a block of one's own, up to the last -/
def cutA (T : Tab) (own : Nat → Option OBlk) (t : Nat) (x : AV) (lo hi : Option AV) : Ans :=
  match T.get t with
  | some ti => match ti.k with
    | .slice e => match T.get e with
      | some ei => match x, lo, hi with
        | .osl b sz _, some (.int _ l), some (.int _ h) => match own b with
          | some blk => match Nat.beq sz ei.size, Nat.beq sz blk.sz, Nat.ble 1 sz with
            | true, true, true => .need (0 ≤ l ∧ l ≤ h ∧ h ≤ blk.rows.length) (retV (.osuf b sz l.toNat (h.toNat - l.toNat)))
            | _, _, _ => .no
          | none => .no
        | _, _, _ => .no
      | none => .no
    | _ => .no
  | none => .no
/-- a slice with three bounds: only that the bounds hold -/
def cut3A (T : Tab) (t : Nat) (x lo hi mx : AV) : Ans :=
  match T.get t with
  | some ti => match ti.k with
    | .slice e => match T.get e with
      | some _ => match x, lo, hi, mx with
        | .osl _ _ n, .int _ l, .int _ h, .int _ m => .need (0 ≤ l ∧ l ≤ h ∧ h ≤ m ∧ m ≤ n) (retV .top)
        | _, _, _, _ => .no
      | none => .no
    | _ => .no
  | none => .no
def isSl (T : Tab) (t : Nat) : Bool :=
  match T.get t with
  | some ti => match ti.k with | .slice _ => true | _ => false
  | none => false
def isStr (T : Tab) (t : Nat) : Bool :=
  match T.get t with
  | some ti => match ti.k with | .str => true | _ => false
  | none => false

def lenA (T : Tab) (t : Nat) (x : AV) : Ans :=
  match x with
  | .rsl _ n _ => match isSl T t with | true => retV (.int .i64 n) | false => .no
  | .osl _ _ n => match isSl T t with | true => retV (.int .i64 n) | false => .no
  | .osuf _ _ _ n => match isSl T t with | true => retV (.int .i64 n) | false => .no
  | .nilsl => match isSl T t with | true => retV (.int .i64 0) | false => .no
  | .esl => match isSl T t with | true => retV (.int .i64 0) | false => .no
  | .str s => match isStr T t with | true => retV (.int .i64 s.size) | false => .no
  | _ => .no

/-- part of a string -/
def sliceS (x : AV) (lo hi : Option AV) : Ans :=
  match x, lo, hi with
  | .str s, none, some (.int _ h) => .need (0 ≤ h ∧ h ≤ s.size) (retV (.str (s.extract 0 h.toNat)))
  | .str s, some (.int _ l), none => .need (0 ≤ l ∧ l ≤ s.size) (retV (.str (s.extract l.toNat s.size)))
  | .str s, some (.int _ l), some (.int _ h) => .need (0 ≤ l ∧ l ≤ h ∧ h ≤ s.size) (retV (.str (s.extract l.toNat h.toNat)))
  | _, _, _ => .no
/-- a byte of a string; an element of an array -/
def indexA (T : Tab) (t : Nat) (x ix : AV) : Ans :=
  match T.get t, x, ix with
  | some i, .str s, .int _ j => match i.k with
    | .str => .exI fun m => .need (0 ≤ j ∧ ∃ h : j.toNat < s.size, m = ((s[j.toNat]'h).toNat : Nat)) (retV (.int .u8 m))
    | _ => .no
  | some i, .agg xs, .int _ j => match i.k with
    | .array n e => match T.get e with
      | some ei => match ei.k.isAgg, Nat.beq ei.size 1 with
        | false, true => .exR fun row => match row with
          | [u] => .need (0 ≤ j ∧ j < n ∧ xs[j.toNat]? = some u) (retV u)
          | _ => .no
        | _, _ => .no
      | none => .no
    | _ => .no
  | _, _, _ => .no
def constOp : Operand → Bool
  | .const _ => true
  | _ => false
def pickA (x y z : Operand) (vx vy vz : AV) : Ans :=
  match x, y, z with
  | .tmp d, _, .const (.bool false) => match vx, vy.strip d true with
    | .bool t, .bool x => retV (.bool (t && x))
    | .bool false, _ => retV (.bool false)
    | _, _ => .no
  | .tmp d, .const (.bool true), _ => match vx, vz.strip d false with
    | .bool t, .bool x => retV (.bool (t || x))
    | .bool true, _ => retV (.bool true)
    | _, _ => .no
  | _, _, _ => .no
def memN (n : Nat) : List Nat → Bool
  | [] => false
  | m :: r => match Nat.beq n m with | true => true | false => memN n r
def isMut : AV → Bool
  | .func g _ => memN g mutIds
  | _ => false
/-- a call that hands over a block -/
def mutCall (f : AV) : List AV → Bool
  | .osl _ _ _ :: _ => isMut f
  | _ => false
/-- what a callee may read that writes block b -/
def viewM1 (own : Nat → Option OBlk) (b : Nat) : AV → Option AV
  | .ovar b' off => match Nat.beq b b' with
    | true => none
    | false => match own b' with
      | some blk => match blk.kd, blk.rows with
        | .any, [row] => match allFit .pure row with | true => some (.rptr row off) | false => none
        | _, _ => none
      | none => none
  | v => match v.idless with | true => some v | false => none
def viewsM1 (own : Nat → Option OBlk) (b : Nat) : List AV → Option (List AV)
  | [] => some []
  | x :: xs => match viewM1 own b x, viewsM1 own b xs with
    | some y, some ys => some (y :: ys)
    | _, _ => none
def viewM (own : Nat → Option OBlk) (b : Nat) : AV → Option AV
  | .func f caps => match viewsM1 own b caps with | some cs => some (.func f cs) | none => none
  | v => viewM1 own b v
def viewsM (own : Nat → Option OBlk) (b : Nat) : List AV → Option (List AV)
  | [] => some []
  | x :: xs => match viewM own b x, viewsM own b xs with
    | some y, some ys => some (y :: ys)
    | _, _ => none
def callMA (own : Nat → Option OBlk) (dst : Option Nat) (f : AV) (args : List AV) : Ans :=
  match f, args with
  | .func g [], .osl b sz n :: rest => match own b with
    | some blk => match Nat.beq sz blk.sz, blk.kd, viewsM own b rest with
      | true, .pure, some us => .need (n = blk.rows.length) (.callM g blk.e blk.sz blk.rows us fun r => match r with
        | .fsl true e' sz' n' rows' => .ret { v := .osl (idOf dst 0) sz' n', D := [(idOf dst 0, { e := e', sz := sz', kd := .pure, rows := rows' })], pg := some b, nw := true }
        | _ => .no)
      | _, _, _ => .no
    | none => .no
  | _, _ => .no
def posOf (g : Nat) : List (Nat × List Nat) → List Nat
  | [] => []
  | (f, ps) :: r => match Nat.beq f g with | true => ps | false => posOf g r
/-- a call that hands blocks over to be written in place -/
def isCap : AV → Bool
  | .func g _ => match posOf g capIds with | [] => false | _ => true
  | _ => false
/-- the blocks of the slices in a variable -/
def handCells (own : Nat → Option OBlk) : List AV → Option (List (Nat × OBlk))
  | [] => some []
  | .osl b _ _ :: r => match own b, handCells own r with
    | some blk, some l => some ((b, blk) :: l)
    | _, _ => none
  | .omap b :: r => match own b, handCells own r with
    | some blk, some l => some ((b, blk) :: l)
    | _, _ => none
  | v :: r => match v.idless with | true => handCells own r | false => none
def handOne (own : Nat → Option OBlk) : AV → Option (List (Nat × OBlk))
  | .ovar b _ => match own b with
    | some blk => match blk.kd, blk.rows with
      | .any, [row] => match handCells own row with | some l => some ((b, blk) :: l) | none => none
      | _, _ => none
    | none => none
  | .osl b _ _ => match own b with | some blk => some [(b, blk)] | none => none
  | .omap b => match own b with | some blk => some [(b, blk)] | none => none
  | _ => none
def handAll (own : Nat → Option OBlk) (ps : List Nat) : Nat → List AV → Option (List (Nat × OBlk))
  | _, [] => some []
  | i, x :: xs => match memN i ps with
    | true => match handOne own x, handAll own ps (i + 1) xs with
      | some l, some m => some (l ++ m)
      | _, _ => none
    | false => handAll own ps (i + 1) xs
def idsOf : List (Nat × OBlk) → List Nat
  | [] => []
  | (b, _) :: r => b :: idsOf r
/-- what a callee may read beside the blocks that it writes -/
def viewS (own : Nat → Option OBlk) (bs : List Nat) : AV → Option AV
  | .osl b sz n => match memN b bs, own b with
    | false, some blk => match Nat.beq sz blk.sz, blk.kd with
      | true, .pure => some (.rsl sz n (blk.rows.take n))
      | _, _ => none
    | _, _ => none
  | .ovar b off => match memN b bs, own b with
    | false, some blk => match blk.kd, blk.rows with
      | .any, [row] => match allFit .pure row with | true => some (.rptr row off) | false => none
      | _, _ => none
    | _, _ => none
  | v => match v.idless with | true => some v | false => none
def viewsS (own : Nat → Option OBlk) (ps bs : List Nat) : Nat → List AV → Option (List AV)
  | _, [] => some []
  | i, x :: xs => match memN i ps, viewsS own ps bs (i + 1) xs with
    | true, some ys => some (x :: ys)
    | false, some ys => match viewS own bs x with
      | some y => some (y :: ys)
      | none => none
    | _, none => none
def okCell : AV → Bool
  | .osl _ _ _ => true
  | .ovar _ _ => true
  | .omap _ => true
  | v => v.scalar
def okBlk (blk : OBlk) : Bool :=
  match blk.kd with
  | .pure => true
  | .any => blk.rows.all (·.all okCell)
  | .flat => false
  | .map _ _ => blk.ents.all (·.all AV.scalar)
def okO : List (Nat × OBlk) → Bool
  | [] => true
  | (_, blk) :: r => okBlk blk && okO r
/-- the same blocks, of the same kind -/
def sameO : List (Nat × OBlk) → List (Nat × OBlk) → Bool
  | [], [] => true
  | (b, x) :: r, (b', y) :: r' => Nat.beq b b' && (Nat.beq x.e y.e && Nat.beq x.sz y.sz && decide (x.kd = y.kd)) && sameO r r'
  | _, _ => false
def scalR : AV → Bool
  | .tup xs => AV.xfreeL xs
  | v => v.scalar
def callSA (own : Nat → Option OBlk) (f : AV) (args : List AV) : Ans :=
  match f with
  | .func g caps => match handAll own (posOf g capIds) 0 (args ++ caps) with
    | some O => match viewsS own (posOf g capIds) (idsOf O) 0 (args ++ caps) with
      | some us => .callS g us O fun O' r => match sameO O O' && okO O' && scalR r with
        | true => .ret { v := r, D := O' }
        | false => .no
      | none => .no
    | none => .no
  | _ => .no
def drs (dr : Bool) : Bool := match seeAll with | true => true | false => dr
def callA (dr : Bool) (T : Tab) (val : Operand → AV) (own : Nat → Option OBlk) (dst : Option Nat) (c : Call) : Ans :=
  match c.callee with
  | .builtin .len => match c.args.toList.map val, c.argTypes.toList with
    | [x], [t] => lenA T t x
    | _, _ => .no
  | .builtin .append => match c.args.toList.map val, c.argTypes.toList with
    | [s, x], [t, t'] => match Nat.beq t t' with
      | true => match isSuf x with
        | true => appSelfA T own t s x
        | false => appendA dr T own dst t s x
      | false => .no
    | _, _ => .no
  | .builtin .clear => match c.args.toList.map val, c.argTypes.toList with
    | [x], [t] => clearA T own t x
    | _, _ => .no
  | .builtin .copy => match c.args.toList.map val, c.argTypes.toList with
    | [d, s], [t, t'] => match Nat.beq t t' with
      | true => copyA T own t d s
      | false => .no
    | _, _ => .no
  | .builtin .min => match c.args.toList.map val with
    | .int k a :: r => match foldI minI k a r with | some m => retV (.int k m) | none => .no
    | _ => .no
  | .builtin .max => match c.args.toList.map val with
    | .int k a :: r => match foldI maxI k a r with | some m => retV (.int k m) | none => .no
    | _ => .no
  | .value f => match isCap (val f) with
   | true => callSA own (val f) (c.args.toList.map val)
   | false => match mutCall (val f) (c.args.toList.map val) with
   | true => callMA own dst (val f) (c.args.toList.map val)
   | false => match view own (val f), views own (c.args.toList.map val) with
    | some (.func g caps), some as => .call g (as ++ caps) fun r => match (val f).idless && AV.idlessL (c.args.toList.map val) || r.xfree, okTup r with
      | true, true => match drs dr, isF r with
        | true, true => .exB fun p => .ret (adopt p dst r)
        | dr, _ => .ret (adopt dr dst r)
      | _, _ => .no
    | _, _ => .no
  | _ => .no

/-- a new slice of zeros -/
def makeA (T : Tab) (dst : Option Nat) (t : Nat) (l c : AV) : Ans :=
  match T.get t with
  | some i => match i.k with
    | .slice e => match T.get e with
      | some ei => match (AV.ofVal ei.zero).cellsOf with
        | some z => match Nat.beq z.length ei.size && Nat.ble 1 ei.size && allFit .pure z with
          | true => match l, c with
            | .int .i64 n, .int .i64 m => .need (m = n ∧ 0 ≤ n ∧ (ei.bytes : Int) * n ≤ 140737488355328 ∧ n ≤ 9223372036854775807)
              (.ret { v := .osl (idOf dst 0) ei.size n.toNat, D := [(idOf dst 0, { e := e, sz := ei.size, kd := .pure, rows := List.replicate n.toNat z })], nw := true })
            | _, _ => .no
          | false => .no
        | none => .no
      | none => .no
    | _ => .no
  | none => .no
/-- a map that is seen -/
def seeM (own : Nat → Option OBlk) (m : AV) : Option (Bool × Bool × Nat × List (List AV)) :=
  match m with
  | .omap b => match own b with
    | some blk => match blk.kd with | .map ag st => some (ag, st, blk.sz, blk.ents) | _ => none
    | none => none
  | .rmap ag st sz rows => some (ag, st, sz, rows)
  | _ => none
/-- a look into a map -/
def lookA (T : Tab) (own : Nat → Option OBlk) (t : Nat) (m key : AV) (ok : Bool) : Ans :=
  match T.get t with
  | some i => match i.k with
    | .map kt et => match T.get kt, T.get et with
      | some ki, some ei => match seeM own m with
        | some (ag, st, sz, rows) => match keyFits st key && keyTy st ki.k && eqBB ag ei.k.isAgg && Nat.beq sz (ei.size + 1) with
          | true => .exB fun p => match p with
            | true => .exR fun row => .need (mget key rows = some row) (match elemOf ag row with
              | some v => retV (match ok with | true => .tup [v, .bool true] | false => v)
              | none => .no)
            | false => .need (mget key rows = none) (match eqBB ei.k.isAgg (isAggV (AV.ofVal ei.zero)) with
              | true => retV (match ok with | true => .tup [AV.ofVal ei.zero, .bool false] | false => AV.ofVal ei.zero)
              | false => .no)
          | false => .no
        | none => .no
      | _, _ => .no
    | _ => .no
  | none => .no
/-- a map's entry is set -/
def mputA (T : Tab) (own : Nat → Option OBlk) (t : Nat) (m key v : AV) : Ans :=
  match T.get t with
  | some i => match i.k with
    | .map kt et => match T.get kt, T.get et, m with
      | some ki, some ei, .omap b => match own b, v.cellsOf with
        | some blk, some cs => match blk.kd with
          | .map ag st => match keyFits st key && keyTy st ki.k && eqBB ag ei.k.isAgg && eqBB ag (isAggV v) && Nat.beq blk.sz (ei.size + 1) && Nat.beq cs.length ei.size && allFit .flat cs with
            | true => .ret { v := .top, D := [(b, { blk with ents := mput key cs blk.ents })] }
            | false => .no
          | _ => .no
        | _, _ => .no
      | _, _, _ => .no
    | _ => .no
  | none => .no
/-- a map's entry is made sure of -/
def mentA (T : Tab) (own : Nat → Option OBlk) (t : Nat) (m key : AV) : Ans :=
  match T.get t with
  | some i => match i.k with
    | .map kt et => match T.get kt, T.get et, m with
      | some ki, some ei, .omap b => match own b, (AV.ofVal ei.zero).cellsOf with
        | some blk, some z => match blk.kd with
          | .map ag st => match keyFits st key && keyTy st ki.k && eqBB ag ei.k.isAgg && eqBB ag (isAggV (AV.ofVal ei.zero)) && Nat.beq blk.sz (ei.size + 1) && Nat.beq z.length ei.size && allFit .pure z with
            | true => .ret { v := .tup [.top, .int .i64 (midx key blk.ents)], D := [(b, { blk with ents := mensure key z blk.ents })] }
            | false => .no
          | _ => .no
        | _, _ => .no
      | _, _, _ => .no
    | _ => .no
  | none => .no
/-- an entry's element is set -/
def mstoA (own : Nat → Option OBlk) (m j v : AV) : Ans :=
  match m, j, v.cellsOf with
  | .omap b, .int .i64 n, some cs => match own b with
    | some blk => match blk.kd with
      | .map ag st => match eqBB ag (isAggV v) && Nat.beq blk.sz (cs.length + 1) && allFit .flat cs with
        | true => .need (0 ≤ n ∧ n < blk.ents.length) (.ret { v := .top, D := [(b, { blk with ents := mset cs n.toNat blk.ents })] })
        | false => .no
      | _ => .no
    | none => .no
  | _, _, _ => .no
def bytesOf (ns : List Int) : ByteArray := ns.foldl (fun r n => r.push (UInt8.ofNat n.toNat)) ByteArray.empty
def u8s : List AV → List Int
  | .int _ n :: r => n :: u8s r
  | _ :: r => u8s r
  | [] => []
/-- bytes as a string -/
def bytesA (T : Tab) (own : Nat → Option OBlk) (s t : Nat) (x : AV) : Ans :=
  match T.get s, T.get t with
  | some si, some ti => match si.k, ti.k with
    | .slice e, .str => match T.get e with
      | some ei => match ei.k with
        | .int .u8 => match Nat.beq ei.size 1, srcRows own 1 x with
          | true, some (_, rows, _) => .exR fun us => .need (rows = us.map (fun u => [u]) ∧ ∀ u ∈ us, ∃ n, u = .int .u8 n) (retV (.str (bytesOf (u8s us))))
          | _, _ => .no
        | _ => .no
      | none => .no
    | _, _ => .no
  | _, _ => .no
def memT (t n : Nat) : List (Nat × Nat) → Bool
  | [] => false
  | (a, b) :: r => match Nat.beq a t && Nat.beq b n with | true => true | false => memT t n r
def isLitT (t n : Nat) : Bool := memT t n litT
def evOp (dr : Bool) (T : Tab) (val : Operand → AV) (own : Nat → Option OBlk) (o : Oper) : Ans :=
  match o.op with
  | .move x => retV (val x).noopt
  | .assign x => retV (val x).noopt
  | .pick x y z => pickA x y z (val x) (val y) (val z)
  | .alloc t => match T.get t with
    | some i => match (AV.ofVal i.zero).cellsOf with
      | some cs => match Nat.beq cs.length i.size with
        | true => .ret { v := .ovar (idOf o.dst 0) 0, D := [(idOf o.dst 0, { e := t, sz := i.size, kd := .any, rows := [cs] })], nw := true }
        | false => .no
      | none => .no
    | none => .no
  | .box t x => match T.get t, (val x).cellsOf with
    | some i, some cs => match Nat.beq cs.length i.size, allFit .any cs with
      | true, true => .ret { v := .ovar (idOf o.dst 0) 0, D := [(idOf o.dst 0, { e := t, sz := i.size, kd := .any, rows := [cs] })], nw := true }
      | _, _ => .no
    | _, _ => .no
  | .load t x => match T.get t with
    | some i => loadA i (cellsOnly own) (val x)
    | none => .no
  | .store t x v => match T.get t with
    | some i => storeA i (cellsOnly own) (val x) (val v)
    | none => .no
  | .binOp op t x y _ => binAV T op t (val x) (val y)
  | .unOp .not _ x => match val x with | .bool b => retV (.bool !b) | _ => .no
  | .unOp .neg _ x => match val x with | .int k n => wrapI k (0 - n) fun m => retV (.int k m) | _ => .no
  | .convert s t x => match isSl T s with
    | true => bytesA T own s t (val x)
    | false => match T.get s, T.get t, val x with
      | some si, some i, .int _ n => match si.k, i.k with | .int _, .int k' => wrapI k' n fun m => retV (.int k' m) | _, _ => .no
      | _, _, _ => .no
  | .makeFunc (.func f) first caps => match first.toList with
    | [] => retV (.func f (caps.toList.map fun x => (val x).noopt))
    | _ => .no
  | .fieldAddr s x f => match T.get s with
    | some i => match i.k with
      | .struct fs => match fieldPlaceE T fs f with
        | some (off, sz) => match Nat.beq sz 0 with
          | true => .no
          | false => match ptrAdd (val x) off with | some p => retV p | none => .no
        | none => .no
      | _ => .no
    | none => .no
  | .field s x f => match T.get s, val x with
    | some i, .agg xs => match i.k with
      | .struct fs => match fs[f]? with
        | some (off, ft) => match T.get ft with
          | some fi => match readAt fi xs off with | some v => retV v | none => .no
          | none => .no
        | none => .no
      | _ => .no
    | _, _ => .no
  | .indexAddr t x ix => match T.get t, val ix with
    | some i, .int _ j => match i.k with
      | .slice e => match T.get e, val x with
        | some ei, .rsl sz n rows => match Nat.beq sz ei.size with
          | true => .need (0 ≤ j ∧ j < n) (.exR fun row => .need (rows[j.toNat]? = some row) (retV (.rptr row 0)))
          | false => .no
        | some ei, .osl b sz n => match Nat.beq sz ei.size with
          | true => .need (0 ≤ j ∧ j < n) (retV (.optr b sz j.toNat 0))
          | false => .no
        | some ei, .osuf b sz lo n => match Nat.beq sz ei.size with
          | true => .need (0 ≤ j ∧ j < n) (retV (.optr b sz (lo + j.toNat) 0))
          | false => .no
        | _, _ => .no
      | .array n e => match T.get e with
        | some ei => match constOp ix with
          | true => match decide (0 ≤ j ∧ j < n) with
            | true => match ptrAdd (val x) (j.toNat * ei.size) with | some p => retV p | none => .no
            | false => .no
          | false => .need (0 ≤ j ∧ j < n) (match ptrAdd (val x) (j.toNat * ei.size) with | some p => retV p | none => .no)
        | none => .no
      | _ => .no
    | _, _ => .no
  | .extract x k => match val x with
    | .tup xs => match xs[k]? with | some v => retV v | none => .no
    | _ => .no
  | .build t parts => match T.get t with
    | some i => match i.k, (AV.ofVal i.zero).cellsOf with
      | .struct fs, some z => match placesE T fs with
        | some ps => match fillE (fun i => ps[i]?) val parts.toList z with
          | some cs => retV (.agg cs)
          | none => .no
        | none => .no
      | .array _ e, some z => match T.get e with
        | some ei => match fillE (fun i => some (i * ei.size, ei.size)) val parts.toList z with
          | some cs => retV (.agg cs)
          | none => .no
        | none => .no
      | _, _ => .no
    | none => .no
  | .buildSlice t len parts => match T.get t with
    | some i => match i.k with
      | .slice e => match T.get e with
        | some ei => match (AV.ofVal ei.zero).cellsOf with
          | some z => match Nat.beq z.length ei.size && Nat.ble 1 ei.size with
            | true => match fillE (fun i => some (i * ei.size, ei.size)) val parts.toList (List.replicate len z).flatten with
              | some cs => match Nat.beq cs.length (len * ei.size), Nat.ble (len * ei.size) 1000000 with
                | true, true => match isLitT t len && AV.idlessL cs with
                  | true => .ret { v := .rsl ei.size len (chunk ei.size len cs), D := [], nw := true }
                  | false => .ret { v := .osl (idOf o.dst 0) ei.size len, D := [(idOf o.dst 0, { e := e, sz := ei.size, kd := kdOf (chunk ei.size len cs), rows := chunk ei.size len cs })], nw := true }
                | _, _ => .no
              | none => .no
            | false => .no
          | none => .no
        | none => .no
      | _ => .no
    | none => .no
  | .makeSlice t l c => makeA T o.dst t (val l) (val c)
  | .index t x ix => indexA T t (val x) (val ix)
  | .slice t x lo hi none => match isStr T t with
    | true => sliceS (val x) (lo.map val) (hi.map val)
    | false => match isCut (val x) (lo.map val) (hi.map val) with
      | true => cutA T own t (val x) (lo.map val) (hi.map val)
      | false => sliceA T t (val x) (lo.map val) (hi.map val)
  | .slice t x (some lo) (some hi) (some mx) => cut3A T t (val x) (val lo) (val hi) (val mx)
  | .call c => callA dr T val own o.dst c
  | .makeMap t none => match T.get t with
    | some i => match i.k with
      | .map kt et => match T.get kt, T.get et with
        | some ki, some ei => .ret { v := .omap (idOf o.dst 0), D := [(idOf o.dst 0, { e := t, sz := ei.size + 1, kd := .map ei.k.isAgg (keyTy true ki.k), rows := [] })], nw := true }
        | _, _ => .no
      | _ => .no
    | none => .no
  | .lookup t m k ok => lookA T own t (val m) (val k) ok
  | .mapUpdate t m k v => mputA T own t (val m) (val k) (val v)
  | .insert t m k v => mputA T own t (val m) (val k) (val v)
  | .mapEntry t m k => mentA T own t (val m) (val k)
  | .entryStore _ m s v => mstoA own (val m) (val s) (val v)
  | .range t x => match T.get t with
    | some i => match i.k with
      | .map _ _ => match val x with | .rmap _ _ _ [] => .ret { v := .itr, D := [], nw := true } | _ => .no
      | _ => .no
    | none => .no
  | .next it false => match val it with | .itr => retV (.tup [.bool false]) | _ => .no
  | .nilCheck x => match val x with
    | .rptr xs off => retV (.rptr xs off)
    | .ovar b off => retV (.ovar b off)
    | .optr b sz i off => retV (.optr b sz i off)
    | _ => .no
  | _ => .no
end Go.Abs
