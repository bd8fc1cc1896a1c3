import Derived.Lib.Split
import Derived.Laws.BitsLemmas
/- THE SMALL MACHINE, PLAIN: lines, objects, images; which may be; what a run does. -/
namespace Go.Proofs.YtihbgppcacaekaaDoor
open Go

structure Ln where
  op : Int
  r : Int
  a : Int
  b : Int
  n : Int
  text : ByteArray
  deriving DecidableEq
def Ln.zero : Ln := ⟨0, 0, 0, 0, 0, ByteArray.empty⟩
structure Ob where
  name : ByteArray
  slots : Int
  frame : Int
  lines : List Ln
  deriving DecidableEq
def Ob.zero : Ob := ⟨ByteArray.empty, 0, 0, []⟩
structure Gb where
  name : ByteArray
  at_ : Int
  size : Int
  init : Int
structure Im where
  objs : List Ob
  globs : List Gb
  top : Int
/-- the operations' names, and their parts -/
def shapes : List (List UInt8 × List UInt8) := [([108, 105], [114, 110]), ([117, 110], [114, 97, 111]), ([98, 105, 110], [114, 97, 98, 111]), ([109, 118], [114, 97]), ([102, 97], [114, 110]), ([108, 100], [114, 97]), ([115, 116], [97, 98]), ([108, 100, 115], [114, 110]), ([115, 116, 115], [97, 110]), ([97, 114, 103], [97, 110]), ([112, 97, 114], [114, 110]), ([99, 97, 108, 108], [116]), ([114, 101, 115], [114]), ([103, 101, 116, 99], [114]), ([112, 117, 116, 99], [97]), ([106, 109, 112], [110]), ([98, 110, 122], [97, 110]), ([114, 101, 116], [97])]
def shp (op : Int) : List UInt8 × List UInt8 := if 1 ≤ op ∧ op ≤ 18 then shapes.getD (op - 1).toNat ([], []) else ([], [])
def Ln.get (l : Ln) (p : UInt8) : Int := if p = 114 then l.r else if p = 97 then l.a else if p = 98 then l.b else l.n
def Ln.set (l : Ln) (p : UInt8) (v : Int) : Ln := if p = 114 then { l with r := v } else if p = 97 then { l with a := v } else if p = 98 then { l with b := v } else { l with n := v }
/-- a name: not empty, of no byte below 33 -/
def namedL (s : List UInt8) : Bool := !s.isEmpty && s.all fun c => decide (33 ≤ c.toNat)
def isReg (p : UInt8) : Bool := p = 114 || p = 97 || p = 98
/-- a line's parts taken out -/
def bareL (l : Ln) (ps : List UInt8) : Ln := ps.foldl (fun b p => if p = 116 then b else b.set p 0) { l with op := 0, text := ByteArray.empty }
def partOk (l : Ln) (p : UInt8) : Bool := p = 116 || !(isReg p && (decide (l.get p < 0) || decide (8 ≤ l.get p)))
def isWd (n : Int) : Bool := decide (-2147483648 ≤ n ∧ n < 2147483648)
/-- what a line's number has to be -/
def numOk (l : Ln) (o : Ob) : Bool :=
  if l.op = 1 then isWd l.n
  else if l.op = 2 then decide (20 ≤ l.n ∧ l.n ≤ 23)
  else if l.op = 3 then decide (1 ≤ l.n ∧ l.n ≤ 19)
  else if l.op = 5 then decide (0 ≤ l.n ∧ l.n ≤ o.frame)
  else if l.op = 8 ∨ l.op = 9 then decide (0 ≤ l.n ∧ l.n < o.slots)
  else if l.op = 10 ∨ l.op = 11 then decide (0 ≤ l.n ∧ l.n < 6)
  else if l.op = 16 ∨ l.op = 17 then decide (0 ≤ l.n ∧ l.n < o.lines.length)
  else true
def textOk (l : Ln) : Bool := if (shp l.op).2 = [116] then namedL l.text.data.toList else l.text.data.toList.isEmpty
def rightL (l : Ln) (o : Ob) : Bool :=
  !(shp l.op).1.isEmpty && textOk l && (shp l.op).2.all (partOk l) && decide (bareL l (shp l.op).2 = Ln.zero) && numOk l o
def headOk (o : Ob) : Bool := namedL o.name.data.toList && decide (0 ≤ o.slots ∧ o.slots ≤ 4096) && decide (0 ≤ o.frame ∧ o.frame ≤ 4096) && decide (1 ≤ o.lines.length ∧ o.lines.length ≤ 65536)
def lastOk (o : Ob) : Bool := match o.lines.getLast? with
  | some l => decide (l.op = 16 ∨ l.op = 18)
  | none => false
def rightO (o : Ob) : Bool := headOk o && o.lines.all (fun l => rightL l o) && lastOk o
def globOk (top : Int) (g : Gb) : Bool := decide (1 ≤ g.at_ ∧ 0 ≤ g.size ∧ g.size ≤ top ∧ g.at_ ≤ top - g.size) && isWd g.init
def memB (s : ByteArray) (l : List ByteArray) : Bool := l.any fun y => decide (y = s)
theorem memB_iff {s : ByteArray} {l : List ByteArray} : memB s l = true ↔ s ∈ l := by
  unfold memB
  simp
def rightM (m : Im) : Bool :=
  m.objs.all rightO && decide (m.objs.map (·.name)).Nodup && m.objs.all (fun o => o.lines.all fun l => !decide (l.op = 12) || memB l.text (m.objs.map (·.name)))
    && m.globs.all (globOk m.top) && decide (m.objs.length ≤ 64 ∧ 1 ≤ m.top ∧ m.top ≤ 4096)
/-- the word operations' names -/
def wordNames : List (List UInt8) := [[97, 100, 100], [115, 117, 98], [109, 117, 108], [100, 105, 118], [114, 101, 109], [100, 105, 118, 117], [114, 101, 109, 117], [97, 110, 100], [111, 114], [120, 111, 114], [115, 104, 108], [115, 104, 114], [115, 104, 114, 117], [101, 113], [110, 101], [108, 116], [108, 101], [108, 116, 117], [108, 101, 117], [110, 101, 103], [110, 111, 116], [108, 111, 119], [122, 101, 114, 111]]

/-! the machine -/
def wr (n : Int) : Int := (n + 2147483648) % 4294967296 - 2147483648
def pl (n : Int) : Int := n % 4294967296
def tv (b : Bool) : Int := if b then 1 else 0
def dv (a b : Int) : Int := if b = 0 then 0 else a.tdiv b
def md (a b : Int) : Int := if b = 0 then 0 else a.tmod b
/-- what an operation on words tells -/
def dov (op a b : Int) : Int × Bool :=
  if op = 1 then ((wr (wr a + wr b)), (true))
  else if op = 2 then ((wr (wr a - wr b)), (true))
  else if op = 3 then ((wr (wr a * wr b)), (true))
  else if op = 4 then ((wr (dv (wr a) (wr b))), (!decide (wr b = 0)))
  else if op = 5 then ((wr (md (wr a) (wr b))), (!decide (wr b = 0)))
  else if op = 6 then ((wr (dv (pl (wr a)) (pl (wr b)))), (!decide (pl (wr b) = 0)))
  else if op = 7 then ((wr (md (pl (wr a)) (pl (wr b)))), (!decide (pl (wr b) = 0)))
  else if op = 8 then ((wr (bits .and .i64 (wr a) (wr b))), (true))
  else if op = 9 then ((wr (bits .or .i64 (wr a) (wr b))), (true))
  else if op = 10 then ((wr (bits .xor .i64 (wr a) (wr b))), (true))
  else if op = 11 then ((wr (wr a * 2 ^ (wr b % 32).toNat)), (true))
  else if op = 12 then ((wr (wr a / 2 ^ (wr b % 32).toNat)), (true))
  else if op = 13 then ((wr (pl (wr a) / 2 ^ (wr b % 32).toNat)), (true))
  else if op = 14 then ((wr (tv (wr a == wr b))), (true))
  else if op = 15 then ((wr (tv (wr a != wr b))), (true))
  else if op = 16 then ((wr (tv (decide (wr a < wr b)))), (true))
  else if op = 17 then ((wr (tv (decide (wr a ≤ wr b)))), (true))
  else if op = 18 then ((wr (tv (decide (pl (wr a) < pl (wr b))))), (true))
  else if op = 19 then ((wr (tv (decide (pl (wr a) ≤ pl (wr b))))), (true))
  else if op = 20 then ((wr (-wr a)), (true))
  else if op = 21 then ((wr (bits .xor .i64 (-1) (wr a))), (true))
  else if op = 22 then ((wr (bits .and .i64 (wr a) 255)), (true))
  else if op = 23 then ((wr (tv (wr a == 0))), (true))
  else (0, false)
/-- a function that was called -/
structure Fm where
  o : Ob
  slots : List Int
  inn : List Int
  out : List Int
  base : Int
  at_ : Int
/-- a run; the stack's top ahead -/
structure Rn where
  mem : List Int
  reg : List Int
  sp : Int
  told : Int
  input : List Int
  stack : List Fm
  over : Bool
  how : Int
  code : Int
  outp : List Int
def zero6 : List Int := [0, 0, 0, 0, 0, 0]
namespace Rn
def rg (R : Rn) (k : Int) : Int := R.reg.getD k.toNat 0
def setr (R : Rn) (k v : Int) : Rn := { R with reg := R.reg.set k.toNat v }
def endd (R : Rn) (how code : Int) : Rn := { R with over := true, how := how, code := code }
def enter (R : Rn) (o : Ob) (inn : List Int) : Rn :=
  if 200 ≤ R.stack.length ∨ 4096 < R.sp + o.frame then R.endd 3 0
  else { R with stack := ⟨o, List.replicate o.slots.toNat 0, inn, zero6, R.sp, 0⟩ :: R.stack, sp := R.sp + o.frame }
def back (R : Rn) (f : Fm) (v : Int) : Rn :=
  let R' : Rn := { R with told := v, sp := R.sp - f.o.frame, stack := R.stack.tail }
  if R.stack.tail.isEmpty then R'.endd 1 v else R'
def reckon (R : Rn) (f : Fm) (l : Ln) : Rn :=
  if l.op = 1 then R.setr l.r l.n
  else if l.op = 2 ∨ l.op = 3 then
    if (dov l.n (R.rg l.a) (R.rg l.b)).2 then R.setr l.r (dov l.n (R.rg l.a) (R.rg l.b)).1 else R.endd 2 2
  else if l.op = 4 then R.setr l.r (R.rg l.a)
  else if l.op = 5 then R.setr l.r (wr (f.base + l.n))
  else if l.op = 8 then R.setr l.r (f.slots.getD l.n.toNat 0)
  else if l.op = 11 then R.setr l.r (f.inn.getD l.n.toNat 0)
  else if l.op = 13 then R.setr l.r R.told
  else if l.op = 14 then
    match R.input with
    | [] => R.setr l.r (-1)
    | c :: rest => { R.setr l.r c with input := rest }
  else R
def touch (R : Rn) (l : Ln) : Rn :=
  if pl (R.rg l.a) < 1 ∨ 4096 ≤ pl (R.rg l.a) then R.endd 2 1
  else if l.op = 6 then R.setr l.r (R.mem.getD (pl (R.rg l.a)).toNat 0)
  else { R with mem := R.mem.set (pl (R.rg l.a)).toNat (R.rg l.b) }
def top (R : Rn) (f : Fm) (rest : List Fm) : Rn := { R with stack := f :: rest }
/-- what a line does to a run whose frame on top is f, on the others rest -/
def stepL (by_ : ByteArray → Option Ob) (R : Rn) (f : Fm) (rest : List Fm) (l : Ln) : Rn :=
  if l.op = 6 ∨ l.op = 7 then (R.top { f with at_ := f.at_ + 1 } rest).touch l
  else if l.op = 9 then R.top { f with at_ := f.at_ + 1, slots := f.slots.set l.n.toNat (R.rg l.a) } rest
  else if l.op = 10 then R.top { f with at_ := f.at_ + 1, out := f.out.set l.n.toNat (R.rg l.a) } rest
  else if l.op = 12 then
    match by_ l.text with
    | some o => (R.top { f with at_ := f.at_ + 1, out := zero6 } rest).enter o f.out
    | none => R.top { f with at_ := f.at_ + 1 } rest
  else if l.op = 15 then { R.top { f with at_ := f.at_ + 1 } rest with outp := R.outp ++ [R.rg l.a % 256] }
  else if l.op = 16 then R.top { f with at_ := l.n } rest
  else if l.op = 17 then if R.rg l.a = 0 then R.top { f with at_ := f.at_ + 1 } rest else R.top { f with at_ := l.n } rest
  else if l.op = 18 then (R.top { f with at_ := f.at_ + 1 } rest).back { f with at_ := f.at_ + 1 } (R.rg l.a)
  else (R.top { f with at_ := f.at_ + 1 } rest).reckon { f with at_ := f.at_ + 1 } l
def step (by_ : ByteArray → Option Ob) (R : Rn) : Rn :=
  match R.stack with
  | [] => R
  | f :: rest => R.stepL by_ f rest (f.o.lines.getD f.at_.toNat Ln.zero)
theorem step_is {by_ : ByteArray → Option Ob} {R : Rn} {f : Fm} {tl : List Fm} {i : Ln} (hst : R.stack = f :: tl) (hi : f.o.lines.getD f.at_.toNat Ln.zero = i) : R.step by_ = R.stepL by_ f tl i := by
  unfold step
  rw [hst]
  simp only
  rw [hi]
def iter (by_ : ByteArray → Option Ob) : Nat → Rn → Rn
  | 0, R => R
  | k + 1, R => if R.over then R else iter by_ k (R.step by_)
end Rn
def byName (m : Im) (s : ByteArray) : Option Ob := m.objs.find? (fun o => o.name = s)
/-- the memory at first -/
def memOf (gs : List Gb) : List Int := gs.foldl (fun M g => if g.at_ < 4096 then M.set g.at_.toNat g.init else M) (List.replicate 4096 0)
def rn0 (m : Im) (input : List Int) : Rn := ⟨memOf m.globs, [0, 0, 0, 0, 0, 0, 0, 0], m.top, 0, input, [], false, 0, 0, []⟩
structure Rs where
  how : Int
  code : Int
  outp : List Int
def mainB : ByteArray := ⟨#[109, 97, 105, 110]⟩
def clip (fuel : Int) : Nat := (min (max fuel 0) 1000000).toNat
def Rn.res (R : Rn) : Rs := if R.over then ⟨R.how, R.code, R.outp⟩ else ⟨4, 0, R.outp⟩
def runM (m : Im) (input : List Int) (fuel : Int) : Rs :=
  if rightM m then
    match byName m mainB with
    | some o => (((rn0 m input).enter o zero6).iter (byName m) (clip fuel)).res
    | none => ⟨4, 0, []⟩
  else ⟨4, 0, []⟩
end Go.Proofs.YtihbgppcacaekaaDoor
