/- spec's machine as plain data: what each event does. No program in sight. -/
import Derived.Test.YtpnkkdpggofanaaMap
namespace Go.Proofs.Ytpnkkdpggofanaa

structure Ev where
  kind : Int
  thr : Int
  call : Int
  what : Int
  id : Int
  gen : Int
  dl : Int
  per : Int
  tk : Int
  err : Int

/-- A time, a generation, an id: what a uint64 holds. -/
def U64 (x : Int) : Prop := 0 ≤ x ∧ x ≤ 18446744073709551615
/-- What an int holds. -/
def I64 (x : Int) : Prop := -9223372036854775808 ≤ x ∧ x ≤ 9223372036854775807
structure Ev.wf (e : Ev) : Prop where
  kind : I64 e.kind
  thr : I64 e.thr
  call : I64 e.call
  what : I64 e.what
  id : U64 e.id
  gen : U64 e.gen
  dl : U64 e.dl
  per : U64 e.per
  tk : U64 e.tk
  err : I64 e.err

structure Cl where
  bg : Ev
  opn : Bool
  done : Bool
  id : Int
  gen : Int
  err : Int

structure Tm where
  gen : Int
  dl : Int
  per : Int
  last : Bool
  armed : Bool
  btw : Bool

structure Ma where
  room : Int
  now : Int
  closed : Bool
  ended : Bool
  closer : Int
  calls : List Cl
  opn : List (Int × Bool)
  added : List (Int × Bool)
  live : List (Int × Tm)

def fitsB (a b : Int) : Bool := decide (a + b ≤ 18446744073709551615)
def fin (m : Ma) (i : Nat) (id gen err : Int) : Ma := { m with calls := m.calls.modify i fun c => { c with done := true, id := id, gen := gen, err := err } }
def perOk (c : Cl) : Bool := decide (c.bg.per > 0) && fitsB c.bg.dl c.bg.per
def hasK (m : List (Int × Bool)) (k : Int) : Bool := (aget m k).getD false
def setLive (m : Ma) (k : Int) (t : Tm) : Ma := { m with live := aput m.live k t }
def delLive (m : Ma) (k : Int) : Ma := { m with live := adel m.live k }

def beginM (m : Ma) (e : Ev) : Option Ma :=
  if e.call != (m.calls.length : Int) + 1 || hasK m.opn e.thr || decide (e.what < 1) || decide (e.what > 7) then none
  else some { m with calls := m.calls ++ [⟨e, true, false, 0, 0, 0⟩], opn := aput m.opn e.thr true }

def addM (m : Ma) (i : Nat) (c : Cl) (e : Ev) : Option Ma :=
  if !(c.bg.what == 1 || c.bg.what == 2) || m.ended || hasK m.added e.id || decide ((m.live.length : Int) ≥ m.room) then none
  else if c.bg.what == 2 && !perOk c then none
  else if e.dl != c.bg.dl || e.per != (if c.bg.what == 2 then c.bg.per else 0) then none
  else some (fin { m with added := aput m.added e.id true, live := aput m.live e.id ⟨e.gen, e.dl, e.per, false, false, false⟩ } i e.id e.gen 0)

def tickM (m : Ma) (i : Nat) (c : Cl) (e : Ev) : Option Ma :=
  if c.bg.what != 7 || m.ended || !fitsB m.now 1 || e.tk != m.now + 1 then none
  else some (fin { m with now := m.now + 1 } i 0 0 0)

def armM (m : Ma) (c : Cl) (e : Ev) : Option Ma :=
  match aget m.live e.id with
  | none => none
  | some t =>
    if c.bg.what != 7 then none
    else if t.btw then
      if !fitsB t.dl t.per || !fitsB t.gen 1 || e.gen != t.gen + 1 || e.dl != t.dl + t.per then none
      else some (setLive m e.id { t with gen := t.gen + 1, dl := t.dl + t.per, armed := true, btw := false })
    else if t.armed || e.gen != t.gen || e.dl != max t.dl m.now then none
    else some (setLive m e.id { t with dl := max t.dl m.now, armed := true, btw := false })

def fireM (m : Ma) (c : Cl) (e : Ev) : Option Ma :=
  match aget m.live e.id with
  | none => none
  | some t =>
    if c.bg.what != 7 || !t.armed || t.btw || e.gen != t.gen || e.dl != t.dl || e.tk != m.now || t.dl != m.now then none
    else if decide (t.per > 0) && !t.last then some (setLive m e.id { t with btw := true })
    else some (delLive m e.id)

def overM (m : Ma) (c : Cl) (e : Ev) : Option Ma :=
  match aget m.live e.id with
  | none => none
  | some t => if c.bg.what != 7 || !t.btw || e.gen != t.gen || fitsB t.dl t.per then none else some (delLive m e.id)

def resetM (m : Ma) (i : Nat) (c : Cl) (e : Ev) : Option Ma :=
  match aget m.live e.id with
  | none => none
  | some t =>
    if c.bg.what != 3 || e.id != c.bg.id || e.dl != c.bg.dl || e.gen == 0 || e.gen - 1 != t.gen then none
    else some (fin (setLive m e.id { t with gen := e.gen, dl := e.dl, armed := false, btw := false }) i e.id e.gen 0)

def cancelM (m : Ma) (i : Nat) (c : Cl) (e : Ev) : Option Ma :=
  match aget m.live e.id with
  | none => none
  | some t =>
    if c.bg.what != 4 || e.id != c.bg.id || (t.btw && !fitsB t.gen 1) || e.gen != (if t.btw then t.gen + 1 else t.gen) then none
    else some (fin (delLive m e.id) i e.id e.gen 0)

def stopsM (m : Ma) (k : Int) : Bool := match aget m.live k with | none => false | some t => decide (t.per > 0) && !t.last

def stopM (m : Ma) (i : Nat) (c : Cl) (e : Ev) : Option Ma :=
  match aget m.live e.id with
  | none => none
  | some t =>
    if c.bg.what != 5 || e.id != c.bg.id || !(decide (t.per > 0) && !t.last) || e.gen != t.gen then none
    else if t.btw then some (fin (delLive m e.id) i e.id e.gen 0)
    else some (fin (setLive m e.id { t with last := true }) i e.id e.gen 0)

def refB (m : Ma) (c : Cl) (e : Ev) : Bool :=
  if e.err == 1 then (c.bg.what == 2 && !perOk c) || ((c.bg.what == 3 || c.bg.what == 4 || c.bg.what == 5) && !hasK m.added c.bg.id)
  else if e.err == 2 then c.bg.what == 1 || c.bg.what == 2 || c.bg.what == 3
  else if e.err == 3 then m.closed
  else if e.err == 9 then c.bg.what == 7 && !fitsB m.now 1
  else if e.err == 0 then ((c.bg.what == 3 || c.bg.what == 4) && (aget m.live c.bg.id).isNone) || (c.bg.what == 5 && !stopsM m c.bg.id)
  else false
def refuseM (m : Ma) (i : Nat) (c : Cl) (e : Ev) : Option Ma := if refB m c e then some (fin m i 0 0 e.err) else none

def closeM (m : Ma) (c : Cl) (e : Ev) : Option Ma := if c.bg.what != 6 || m.closed then none else some { m with closed := true, closer := e.call }

def leaveM (m : Ma) (e : Ev) : Option Ma :=
  if !m.closed || m.closer != e.call then none
  else match aget m.live e.id with
  | none => none
  | some t => if t.btw || e.gen != t.gen then none else some (delLive m e.id)

def endM (m : Ma) (i : Nat) (e : Ev) : Option Ma :=
  if !m.closed || m.closer != e.call || decide ((m.live.length : Int) > 0) then none else some (fin { m with ended := true } i 0 0 0)

def answerM (m : Ma) (i : Nat) (c : Cl) (e : Ev) : Option Ma :=
  if e.id != c.id || e.gen != c.gen || e.err != c.err then none
  else some { m with calls := m.calls.modify i fun c => { c with opn := false }, opn := aput m.opn e.thr false }

/-- Which kinds have a rule; whether the call must be done. -/
def ruleOf (k : Int) : Option Bool :=
  if k == 4 || k == 5 || k == 14 || k == 2 then some true
  else if k == 3 || k == 11 || k == 6 || k == 7 || k == 8 || k == 9 || k == 10 || k == 12 || k == 13 then some false else none

def ruleM (m : Ma) (i : Nat) (c : Cl) (e : Ev) : Option Ma :=
  if e.kind == 4 then armM m c e
  else if e.kind == 5 then fireM m c e
  else if e.kind == 14 then overM m c e
  else if e.kind == 2 then answerM m i c e
  else if e.kind == 3 then addM m i c e
  else if e.kind == 11 then tickM m i c e
  else if e.kind == 6 then resetM m i c e
  else if e.kind == 7 then cancelM m i c e
  else if e.kind == 8 then stopM m i c e
  else if e.kind == 9 then refuseM m i c e
  else if e.kind == 10 then closeM m c e
  else if e.kind == 12 then leaveM m e
  else if e.kind == 13 then endM m i e
  else none

def stepM (m : Ma) (e : Ev) : Option Ma :=
  if e.kind == 1 then beginM m e
  else if decide (e.call < 1) || decide (e.call > (m.calls.length : Int)) then none
  else match m.calls[(e.call - 1).toNat]? with
  | none => none
  | some c =>
    if (ruleOf e.kind).isNone || !c.opn || (some c.done != ruleOf e.kind) || c.bg.thr != e.thr || c.bg.what != e.what then none
    else ruleM m (e.call - 1).toNat c e

def new (n : Int) : Ma := ⟨n, 0, false, false, 0, [], [], [], []⟩
/-- How many of the events may come, and the machine then. -/
def playM (m : Ma) : List Ev → Ma × Nat
  | [] => (m, 0)
  | e :: l => match stepM m e with
    | none => (m, 0)
    | some m' => let r := playM m' l; (r.1, r.2 + 1)
end Go.Proofs.Ytpnkkdpggofanaa
