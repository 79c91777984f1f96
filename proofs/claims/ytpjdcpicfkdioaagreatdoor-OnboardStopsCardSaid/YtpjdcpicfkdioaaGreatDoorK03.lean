/- Texts in one: SitePlain TopoSmall TopoBal. -/
import Derived.Test.YtpjdcpicfkdioaaGreatDoorK02
import Derived.Test.YtpjdcpicfkdioaaGreatDoorProg
import Derived.Shelf.SlicesQ.IndexFunc
import Derived.Ground.SlgfProg
/- Plain: what a track is, places on it, ways over it, authorities, and a train that is moved: computable, so that the chapter's example is decided. -/
set_option linter.unusedSimpArgs false
set_option linter.unusedVariables false
namespace Go.Proofs.YtpjdcpicfkdioaaGreatDoor

def endT (t : Tp) (x : En) : Bool := thereT t x.edge && (decide (x.at_ = 0) || decide (x.at_ = 1))
def jointsE (t : Tp) : List Jt → List Jt → Int
  | _, [] => 0
  | d, j :: l => if endT t j.a = false ∨ endT t j.b = false ∨ j.a = j.b then 1 else if joinsT d j.a j.b then 5 else jointsE t (d ++ [j]) l
def balsE (t : Tp) : List Bl → List Bl → Int
  | _, [] => 0
  | d, b :: l => if b.id < 0 ∨ 16777214 < b.id ∨ thereT t b.edge = false ∨ b.at_ < 0 ∨ edgeT t b.edge < b.at_ then 1 else if d.any (fun x => decide (x.id = b.id)) then 5 else balsE t (d ++ [b]) l
/-- Every step's edge is there, and is none of those ahead. -/
def apartE (t : Tp) : List St → List St → Bool
  | _, [] => true
  | d, s :: l => thereT t s.edge && !(d.any fun x => decide (x.edge = s.edge)) && apartE t (d ++ [s]) l
def routedE (t : Tp) (r : Rt) : Int :=
  if r.id < 1 ∨ r.path.length < 1 ∨ 8 < r.path.length then 1 else if apartE t [] r.path = false then 1 else if lenE t r.path ≠ 0 then lenE t r.path else if r.gap < 0 ∨ lenT t r.path ≤ r.gap ∨ r.timer < 1 ∨ 1000 < r.timer then 1 else if r.path.all (fun s => t.bals.any fun b => decide (b.edge = s.edge)) then 0 else 4
def routesE (t : Tp) : List Rt → List Rt → Int
  | _, [] => 0
  | d, r :: l => if routedE t r ≠ 0 then routedE t r else if d.any (fun x => decide (x.id = r.id)) then 5 else routesE t (d ++ [r]) l
/-- What is wrong with a track. -/
def checkT (t : Tp) : Int :=
  if 40 < t.edges.length ∨ 80 < t.joints.length ∨ 80 < t.bals.length ∨ 30 < t.routes.length then 2 else if t.edges.any (fun n => decide (n < 1) || decide (1000000 < n)) then 1 else if jointsE t [] t.joints ≠ 0 then jointsE t [] t.joints else if balsE t [] t.bals ≠ 0 then balsE t [] t.bals else routesE t [] t.routes
/-- Which steps may follow one, in order. -/
def metT (t : Tp) (s : St) : List St := t.joints.flatMap fun j => (if j.a = leavesT s ∧ endT t j.b then [⟨j.b.edge, decide (j.b.at_ = 1)⟩] else []) ++ (if j.b = leavesT s ∧ endT t j.a then [⟨j.a.edge, decide (j.a.at_ = 1)⟩] else [])
def stLe (a b : St) : Bool := decide (a.edge < b.edge) || decide (a.edge = b.edge) && decide ((entersT a).at_ ≤ (entersT b).at_)
def putSt (s : St) : List St → List St
  | [] => [s]
  | x :: l => if s = x then x :: l else if stLe s x then s :: x :: l else x :: putSt s l
def afterT (t : Tp) (s : St) : List St := if thereT t s.edge then (metT t s).foldr putSt [] else []

-- places
def rightT (t : Tp) (p : Ps) : Bool := decide (checkT t = 0) && thereT t p.edge && decide (0 ≤ p.at_) && decide (p.at_ ≤ edgeT t p.edge)
def alongT (t : Tp) (p : Ps) : Int := if p.rev then edgeT t p.edge - p.at_ else p.at_
def overT (t : Tp) (s : St) (n : Int) : Ps := ⟨s.edge, if s.rev then edgeT t s.edge - n else n, s.rev⟩
def none_Ps : Ps := ⟨0, 0, false⟩
/-- On from a step: what is wrong, the step, how far along it. 'k' steps more are gone at most. -/
def goT (t : Tp) : Nat → St → Int → Int × St × Int
  | k, s, n => if n ≤ edgeT t s.edge then (0, s, n) else match afterT t s with
    | [] => (141, s, n)
    | [x] => match k with
      | 0 => (2, s, n)
      | k + 1 => goT t k x (n - edgeT t s.edge)
    | _ => (140, s, n)
def walkE (t : Tp) (p : Ps) (n : Int) : Int := if rightT t p = false ∨ n < 0 ∨ 1099511627776 < n then 1 else (goT t 40 ⟨p.edge, p.rev⟩ (n + alongT t p)).1
def walkP (t : Tp) (p : Ps) (n : Int) : Ps := if walkE t p n = 0 then (let g := goT t 40 ⟨p.edge, p.rev⟩ (n + alongT t p); overT t g.2.1 g.2.2) else none_Ps
def placeB (b : Bl) (rev : Bool) : Ps := ⟨b.edge, b.at_, rev⟩
def locateE (t : Tp) (id : Int) (rev : Bool) (n : Int) : Int := if checkT t ≠ 0 then 1 else match balT t id with
  | none => 4
  | some b => walkE t (placeB b rev) n
def locateP (t : Tp) (id : Int) (rev : Bool) (n : Int) : Ps := if checkT t ≠ 0 then none_Ps else match balT t id with
  | none => none_Ps
  | some b => walkP t (placeB b rev) n
/-- How far a step lies along a way: what is ahead of it, if it is on it. -/
def aheadT (t : Tp) (x : St) : List St → Int → Option Int
  | [], _ => none
  | s :: l, n => if s = x then some n else aheadT t x l (n + edgeT t s.edge)
def onT (t : Tp) (path : List St) (p : Ps) : Int × Int := if rightT t p = false then (0, 1) else if lenE t path ≠ 0 then (0, lenE t path) else match aheadT t ⟨p.edge, p.rev⟩ path 0 with
  | none => (0, 4)
  | some n => (n + alongT t p, 0)
def offAt (t : Tp) : List St → Int → Ps
  | [], _ => none_Ps
  | s :: l, n => if n ≤ edgeT t s.edge then overT t s n else offAt t l (n - edgeT t s.edge)
def offE (t : Tp) (path : List St) (n : Int) : Int := if checkT t ≠ 0 then 1 else if lenE t path ≠ 0 then lenE t path else if n < 0 ∨ lenT t path < n then 1 else 0
def offP (t : Tp) (path : List St) (n : Int) : Ps := if offE t path n = 0 then offAt t path n else none_Ps

-- pieces
def spLe (a b : Sp) : Bool := decide (a.edge < b.edge) || decide (a.edge = b.edge) && decide (a.lo ≤ b.lo)
def putSp (s : Sp) : List Sp → List Sp
  | [] => [s]
  | x :: l => if spLe s x then s :: x :: l else x :: putSp s l
def normT (l : List Sp) : List Sp := (joinT [] ((l.filter someT).foldr putSp [])).reverse
def pieceT (t : Tp) (fr to_ at_ : Int) (s : St) : Sp :=
  let n := edgeT t s.edge
  let lo := max (fr - at_) 0
  let hi := min (to_ - at_) n
  if s.rev then ⟨s.edge, n - hi, n - lo⟩ else ⟨s.edge, lo, hi⟩
def piecesT (t : Tp) (fr to_ : Int) : List St → Int → List Sp
  | [], _ => []
  | s :: l, at_ => pieceT t fr to_ at_ s :: piecesT t fr to_ l (at_ + edgeT t s.edge)
def spanE (t : Tp) (path : List St) (fr to_ : Int) : Int := if lenE t path ≠ 0 then lenE t path else if t.edges.any (fun n => decide (n < 1) || decide (1000000 < n)) ∨ fr < 0 ∨ to_ < fr ∨ lenT t path < to_ then 1 else 0
def spanT (t : Tp) (path : List St) (fr to_ : Int) : List Sp := if spanE t path fr to_ = 0 then normT (piecesT t fr to_ path 0) else []
def totalT (l : List Sp) : Int := sumSp (normT l)

-- authorities
def overP (path : List St) (edge : Int) : Bool := path.any fun s => decide (s.edge = edge)
def twiceP : List St → List St → Bool
  | _, [] => false
  | d, s :: l => overP d s.edge || twiceP (d ++ [s]) l
/-- How much of an authority's way lies ahead of its balise group, and how much of the first edge behind it. -/
def leftP (t : Tp) (m : Ma) : Option (Int × Int) := match balT t m.ref with
  | none => none
  | some b => if m.path.head? ≠ some ⟨b.edge, m.rev⟩ ∨ lenE t m.path ≠ 0 then none else (let behind := if m.rev then edgeT t b.edge - b.at_ else b.at_; some (lenT t m.path - behind, behind))
def sectsP : Int → List Sc → Bool
  | _, [] => true
  | last, s :: l => decide (last < s.to_) && decide (s.to_ ≤ 1099511627776) && decide (1 ≤ s.timer) && decide (s.timer ≤ 1000) && sectsP s.to_ l
def lastP (m : Ma) : Int := match m.sects.getLast? with
  | none => 0
  | some s => s.to_
def mayP (t : Tp) (m : Ma) : Bool := decide (checkT t = 0) && decide (m.path.length ≤ 24) && !twiceP [] m.path && decide (1 ≤ m.sects.length) && decide (m.sects.length ≤ 8) && decide (0 ≤ m.gap) && decide (m.gap ≤ 1099511627776) && sectsP 0 m.sects && (match leftP t m with
  | none => false
  | some x => decide (lastP m + m.gap ≤ x.1))
def reachP : List Sc → Int → Int → Int
  | [], _, n => n
  | s :: l, age, n => if s.timer ≤ age then n else reachP l age s.to_
def extentE (t : Tp) (m : Ma) (fr to_ : Int) : Int := if mayP t m = false ∨ fr < 0 ∨ to_ < fr ∨ lastP m + m.gap < to_ then 1 else match leftP t m with
  | none => 1
  | some x => spanE t m.path (x.2 + fr) (x.2 + to_)
def extentT (t : Tp) (m : Ma) (fr to_ : Int) : List Sp := if mayP t m = false ∨ fr < 0 ∨ to_ < fr ∨ lastP m + m.gap < to_ then [] else match leftP t m with
  | none => []
  | some x => spanT t m.path (x.2 + fr) (x.2 + to_)
structure Lo where
  route : Int
  train : Int
  no : Int
deriving DecidableEq
/-- The first lock that lies ahead, and its route. -/
def nextP (t : Tp) (l : List Lo) (train : Int) (out : List Lo) (ok : Rt → Bool) : Option (Lo × Rt) := l.findSome? fun k => match routeT t k.route with
  | none => none
  | some r => if k.train = train ∧ k ∉ out ∧ ok r then some (k, r) else none
def followsP (t : Tp) (gone : List St) (r : Rt) : Bool := match gone.getLast?, r.path.head? with
  | some g, some h => decide (h ∈ afterT t g) && !(r.path.any fun s => overP gone s.edge)
  | _, _ => false
def chainOn (t : Tp) (l : List Lo) (train : Int) : Nat → List Lo → List St → List Lo
  | 0, out, _ => out
  | k + 1, out, gone => match nextP t l train out (followsP t gone) with
    | none => out
    | some (x, r) => chainOn t l train k (out ++ [x]) (gone ++ r.path)
def chainP (t : Tp) (l : List Lo) (train : Int) (s : St) : List Lo := if checkT t ≠ 0 then [] else match nextP t l train [] (fun r => decide (s ∈ r.path)) with
  | none => []
  | some (x, r) => chainOn t l train 7 [x] r.path
def goneOn (t : Tp) : Nat → St → Int → List St
  | 0, _, _ => []
  | k + 1, s, n => if edgeT t s.edge < n then (match afterT t s with
    | [] => []
    | x :: _ => x :: goneOn t k x (n - edgeT t s.edge)) else []
def goneP (t : Tp) (b : Bl) (rev : Bool) (n : Int) : List St := ⟨b.edge, rev⟩ :: goneOn t 41 ⟨b.edge, rev⟩ (n + alongT t (placeB b rev))

/-- The sections and the way that a chain's routes give, from 'at' on; the last one's gap. -/
def sectsOn (t : Tp) (s : St) : Bool → List Rt → Int → List St × List Sc × Int → List St × List Sc × Int
  | _, [], _, r => r
  | first, x :: l, at_, r =>
    let path := if first then (x.path.dropWhile fun y => decide (y ≠ s)).drop 1 else x.path
    let at2 := at_ + (path.map fun y => edgeT t y.edge).sum
    sectsOn t s false l at2 (r.1 ++ path, r.2.1 ++ [⟨at2, x.timer⟩], x.gap)
/-- The last section ends so much earlier. -/
def lessLast : List Sc → Int → List Sc
  | [], _ => []
  | [x], g => [⟨x.to_ - g, x.timer⟩]
  | x :: l, g => x :: lessLast l g
def none_Ma : Ma := ⟨0, false, [], [], 0⟩
def buildM (t : Tp) (l : List Lo) (train ref : Int) (rev : Bool) (n : Int) (b : Bl) : Ma :=
  let front := locateP t ref rev n
  let s : St := ⟨front.edge, front.rev⟩
  let path := goneP t b rev n
  let at_ := (path.map fun y => edgeT t y.edge).sum - alongT t (placeB b rev)
  let r := sectsOn t s true ((chainP t l train s).filterMap fun k => routeT t k.route) at_ (path, [], 0)
  ⟨ref, rev, r.1, lessLast r.2.1 r.2.2, r.2.2⟩
def buildE (t : Tp) (l : List Lo) (train ref : Int) (rev : Bool) (n : Int) : Int :=
  if locateE t ref rev n ≠ 0 then locateE t ref rev n else if chainP t l train ⟨(locateP t ref rev n).edge, (locateP t ref rev n).rev⟩ = [] then 4 else match balT t ref with
  | none => 4
  | some b =>
    let m := buildM t l train ref rev n b
    if 24 < m.path.length ∨ twiceP [] m.path = true then 2 else if lastP m ≤ n then 141 else match m.sects.reverse with
      | x :: y :: _ => if x.to_ ≤ y.to_ then 141 else 0
      | _ => 0
def buildP (t : Tp) (l : List Lo) (train ref : Int) (rev : Bool) (n : Int) : Ma :=
  if buildE t l train ref rev n ≠ 0 then none_Ma else match balT t ref with
  | none => none_Ma
  | some b =>
    let m := buildM t l train ref rev n b
    match m.sects with
    | x :: l => if x.to_ = 0 then { m with sects := l } else m
    | [] => m

-- aboard
structure Rl where
  ahead : Int
  behind : Int
  period : Int
  most : Int
  quiet : Int
  quarantine : Int
  brake : Int
  skew : Int
  lend : Int
def timeP (n : Int) : Bool := decide (0 ≤ n) && decide (n ≤ 4294967294)
def clockP (n : Int) : Bool := decide (0 ≤ n) && decide (n ≤ 268435456)
def rulesP (r : Rl) : Bool := timeP r.ahead && timeP r.behind && decide (1 ≤ r.period) && decide (r.period ≤ 1048576) && decide (1 ≤ r.quiet) && decide (r.quiet ≤ 1048576) && decide (0 ≤ r.most) && decide (r.most ≤ 20) && clockP r.quarantine && clockP r.skew && clockP r.lend && decide (0 ≤ r.brake) && decide (r.brake ≤ 1099511627776)
def risingP : Int → List Int → Bool
  | _, [] => true
  | last, n :: l => decide (last < n) && decide (n ≤ 15) && risingP n l
def blankP (m : Ma) : Bool := decide (m.ref = 0) && !m.rev && m.path.isEmpty && m.sects.isEmpty && decide (m.gap = 0)
/-- What is aboard, but for the connection's own words. -/
structure Tr where
  id : Int
  len : Int
  rl : Rl
  side : Int
  train : Int
  sl : Int
  sa : Int
  sb : Int
  free : Bool
  last : Int
  on : Bool
  pos : Ps
  ref : Int
  past : Int
  rev : Bool
  ma : Ma
  at_ : Int
  held : Bool
  stops : List Int
def mayX (t : Tp) (x : Tr) : Bool := rulesP x.rl && decide (0 ≤ x.id) && decide (x.id < 16777216) && decide (1 ≤ x.len) && decide (x.len ≤ 32766) && decide (x.side = 0) && decide (x.train = x.id) && timeP x.sa && timeP x.sb && (decide (x.sl = -1) || timeP x.sl) && decide (-1 ≤ x.last) && decide (x.last ≤ 4294967294) && rightT t x.pos && decide (0 ≤ x.past) && decide (x.past ≤ 1099511627776) && risingP (-1) x.stops && (balT t x.ref).isSome && decide (0 ≤ x.at_) && decide (x.at_ ≤ 268435456) && (if x.held then mayP t x.ma else blankP x.ma && decide (x.at_ = 0))
def backX (t : Tp) (m : Ma) : Option Int := match balT t m.ref with
  | none => none
  | some b => if (onT t m.path (placeB b m.rev)).2 = 0 then some (onT t m.path (placeB b m.rev)).1 else none
def frontM (t : Tp) (m : Ma) (p : Ps) : Option Int := match backX t m with
  | none => none
  | some b => if (onT t m.path p).2 = 0 ∧ b ≤ (onT t m.path p).1 then some ((onT t m.path p).1 - b) else none
def frontX (t : Tp) (x : Tr) : Option Int := if mayX t x = true ∧ x.held = true then frontM t x.ma x.pos else none
def wrapX (n : Int) : Int := (n + 9223372036854775808) % 18446744073709551616 - 9223372036854775808
def authX (t : Tp) (x : Tr) (now : Int) : List Sp := match frontX t x with
  | none => []
  | some n => if x.stops ≠ [] ∨ clockP now = false then [] else if reachP x.ma.sects (now - x.at_) 0 ≤ n then [] else extentT t x.ma n (reachP x.ma.sects (now - x.at_) 0)
/-- What is wrong with a train that is to go on. -/
def movedE (t : Tp) (x : Tr) (n now : Int) : Int := match frontX t x with
  | none => 6
  | some a => if x.stops ≠ [] then 6 else if n < 1 then 1 else if reachP x.ma.sects (now - x.at_) 0 - a < n then 141 else 0
/-- The balise groups that are met, one behind the other. -/
def metX (t : Tp) (x : Tr) (fr to_ : Int) : List Bl → Int × Int × Bool × Int → Int × Int × Bool × Int
  | [], r => r
  | g :: l, r => match x.ma.path.find? (fun s => decide (s.edge = g.edge)) with
    | none => metX t x fr to_ l r
    | some s => let o := (onT t x.ma.path ⟨g.edge, g.at_, s.rev⟩).1
      if r.1 < o ∧ o ≤ to_ then metX t x fr to_ l (o, g.id, s.rev, to_ - o) else metX t x fr to_ l r
def movedX (t : Tp) (x : Tr) (n : Int) : Tr := match frontX t x, backX t x.ma with
  | some a, some b => let r := metX t x (b + a) (b + a + n) t.bals (b + a, x.ref, x.rev, x.past + n)
    { x with pos := offP t x.ma.path (b + a + n), ref := r.2.1, rev := r.2.2.1, past := r.2.2.2 }
  | _, _ => x

-- the chapter's example
def line16 : Tp := ⟨[100, 200, 300], [⟨⟨0, 1⟩, ⟨1, 0⟩⟩, ⟨⟨1, 1⟩, ⟨2, 0⟩⟩], [⟨7, 0, 10⟩, ⟨8, 1, 20⟩, ⟨9, 2, 30⟩], [⟨1, [⟨0, false⟩, ⟨1, false⟩], 0, 30⟩, ⟨2, [⟨1, false⟩, ⟨2, false⟩], 50, 20⟩]⟩
example : checkT line16 = 0 := by decide +kernel
example : locateE line16 7 false 40 = 0 ∧ (locateP line16 7 false 40).edge = 0 ∧ (locateP line16 7 false 40).at_ = 50 := by decide +kernel
example : chainP line16 [⟨1, 5, 1⟩] 5 ⟨0, false⟩ = [⟨1, 5, 1⟩] := by decide +kernel
example : buildE line16 [⟨1, 5, 1⟩] 5 7 false 40 = 0 := by decide +kernel
def ma16 : Ma := ⟨7, false, [⟨0, false⟩, ⟨1, false⟩], [⟨290, 30⟩], 0⟩
example : (buildP line16 [⟨1, 5, 1⟩] 5 7 false 40).path = ma16.path ∧ (buildP line16 [⟨1, 5, 1⟩] 5 7 false 40).sects.map (fun s => (s.to_, s.timer)) = [(290, 30)] ∧ (buildP line16 [⟨1, 5, 1⟩] 5 7 false 40).gap = 0 := by decide +kernel
def rules19 : Rl := ⟨100, 100, 10, 2, 50, 70, 20, 0, 0⟩
/-- The train of the example. -/
def train19 : Tr := ⟨5, 400, rules19, 0, 5, -1, 100, 100, false, -1, false, ⟨0, 50, false⟩, 7, 40, false, ma16, 3, true, []⟩
example : mayX line16 train19 = true := by decide +kernel
example : frontX line16 train19 = some 40 ∧ totalT (authX line16 train19 32) = 250 := by decide +kernel
example : movedE line16 train19 250 32 = 0 ∧ movedE line16 train19 251 32 = 141 ∧ movedE line16 train19 1 33 = 141 := by decide +kernel
/-- The train of the example, moved. -/
def moved19 : Tr := ⟨5, 400, rules19, 0, 5, -1, 100, 100, false, -1, false, ⟨1, 200, false⟩, 8, 180, false, ma16, 3, true, []⟩
example : (movedX line16 train19 250).pos.edge = 1 ∧ (movedX line16 train19 250).pos.at_ = 200 ∧ (movedX line16 train19 250).ref = 8 ∧ (movedX line16 train19 250).past = 180 ∧ mayX line16 moved19 = true := by decide +kernel
end Go.Proofs.YtpjdcpicfkdioaaGreatDoor
/- Small functions of topo: is an edge there, where a step enters and leaves; a balise group's number. -/
set_option linter.unusedSimpArgs false
set_option linter.unusedVariables false
namespace Go.Proofs.YtpjdcpicfkdioaaGreatDoor
open Go.RowKit

theorem tothere_k (t : Tp) (v : TpV) (e : Int) (w : World) : Calls Tryz.prog 116 #[.agg (v.cells t), .int .i64 e] w fun r w' => r = .returned (.bool (thereT t e)) ∧ Below w.heap.size w w' := by
  unfold TpV.cells thereT
  generalize t.edges.length = n1
  generalize t.joints.length = n2
  generalize t.bals.length = n3
  generalize t.routes.length = n4
  obtain ⟨A1, c1, A2, c2, A3, c3, A4, c4, rs⟩ := v
  simp only
  have hO : Own w _ [_] := (Own.nil w).alloc 27 #[.slice A1 n1 c1, .slice A2 n2 c2, .slice A3 n3 c3, .slice A4 n4 c4] _ rfl
  have hcl := hO.b0.cell
  by_cases h1 : 0 ≤ e
  · rw [decide_eq_true h1]
    go_enter Tryz.func116, Tryz.ntmps116
    go_wp2_with fail
    go_ret
    exact ⟨by simp, hO.below⟩
  · rw [decide_eq_false h1]
    go_enter Tryz.func116, Tryz.ntmps116
    go_wp2_with fail
    go_ret
    exact ⟨by simp, hO.below⟩
abbrev stV (s : St) : Value := .agg #[.int .i64 s.edge, .bool s.rev]
abbrev enV (s : En) : Value := .agg #[.int .i64 s.edge, .int .i64 s.at_]
abbrev blV (b : Bl) : Value := .agg #[.int .i64 b.id, .int .i64 b.edge, .int .i64 b.at_]
theorem results_c {P : Program} {fn : Func} {a : Tmp} {t1 : TypeId} (h : fn.results = #[.cell a t1]) (tmps : Array Value) (w : World) (g1 : Nat) (c1 : Array Value) (d1 : TypeDesc)
    (ha : tmps.getD a undef = .pointer (some ⟨g1, 0, none⟩)) (h1 : Blk w g1 t1 c1)
    (u1 : P.underlying t1 = some d1) (k1 : (match d1 with | .struct _ | .array _ _ => true | _ => false) = true) (i1 : (P.info? t1).map (·.size) = some c1.size) :
    (results fn tmps).run P w = .ok (.agg c1) w := by
  have ha' : tmps[a]?.getD undef = .pointer (some ⟨g1, 0, none⟩) := by simpa using ha
  simp [results, h, ha', asAddr, run_loadVar_row w g1 t1 t1 c1 (0, 0) d1 h1 u1 k1 i1]
theorem toenters_k (s : St) (w : World) : Calls Tryz.prog 182 #[stV s] w fun r w' => r = .returned (enV (entersT s)) ∧ Below w.heap.size w w' := by
  obtain ⟨e, r⟩ := s
  have hO : Own w _ [_, _] := ((Own.nil w).alloc 98 #[.int .i64 e, .bool r] _ rfl).alloc 92 #[.int .i64 0, .int .i64 0] _ rfl
  have hcl := hO.b0.cell
  cases r
  · go_enter Tryz.func182, Tryz.ntmps182
    go_wp2_with fail
    replace hO : Own w _ [_, _] := Own.start2 w 98 92 #[.int .i64 e, .bool false] #[.int .i64 e, .int .i64 0]
    exact bodyPost_ret (results_c Tryz.results182 _ _ _ _ _ rfl hO.b1 Tryz.underlying92 rfl (by kernel_rfl)) rfl ⟨rfl, hO.below⟩
  · go_enter Tryz.func182, Tryz.ntmps182
    go_wp2_with fail
    replace hO : Own w _ [_, _] := Own.start2 w 98 92 #[.int .i64 e, .bool true] #[.int .i64 e, .int .i64 1]
    exact bodyPost_ret (results_c Tryz.results182 _ _ _ _ _ rfl hO.b1 Tryz.underlying92 rfl (by kernel_rfl)) rfl ⟨rfl, hO.below⟩
theorem toleaves_k (s : St) (w : World) : Calls Tryz.prog 179 #[stV s] w fun r w' => r = .returned (enV (leavesT s)) ∧ Below w.heap.size w w' := by
  obtain ⟨e, r⟩ := s
  have hO1 : Own w _ [_, _] := Own.start2 w 98 92 #[.int .i64 e, .bool r] #[.int .i64 0, .int .i64 0]
  have hO : Own w _ [_, _] := Own.start2 w 98 92 #[.int .i64 e, .bool !r] #[.int .i64 0, .int .i64 0]
  have hcl := hO1.b0.cell
  have hce := fun W => toenters_k ⟨e, !r⟩ W
  unfold leavesT
  generalize hx : entersT ⟨e, !r⟩ = x at hce
  obtain ⟨xe, xa⟩ := x
  clear hx
  simp only [stV, enV] at hce ⊢
  go_enter Tryz.func179, Tryz.ntmps179
  go_wp2_with (first
    | (go_at_call 182; (with_reducible refine (hce _).mono ?_); rintro e2 w1 ⟨rfl, hb1⟩; replace hO := hO.grow hb1)
    | ((with_reducible refine own_row1 (#[.int .i64 xe, .int .i64 xa]) hO rfl _ _ rfl rfl rfl (by kernel_rfl) rfl ?_ ?_); (· first | rfl | (simp [Value.oneCell']; done)); intro wR hOR hszR hkR; replace hO := hOR; clear hOR)
    )
  exact bodyPost_ret (results_c Tryz.results179 _ _ _ _ _ rfl hO.b1 Tryz.underlying92 rfl (by kernel_rfl)) rfl ⟨rfl, hO.below⟩
theorem tobal1_k (b : Bl) (id : Int) (A : Addr) (w : World) (hA : w.cell? A = some (.int .i64 id)) (hb : A.block < w.heap.size) : Calls Tryz.prog 81 #[blV b, .pointer (some A)] w fun r w' => r = .returned (.bool (decide (b.id = id))) ∧ Below w.heap.size w w' := by
  obtain ⟨b1, b2, b3⟩ := b
  have hO : Own w _ [_] := (Own.nil w).alloc 96 #[.int .i64 b1, .int .i64 b2, .int .i64 b3] _ rfl
  have hcl := hO.b0.cell
  have hA2 := (hO.below.cell (p := A) hb).trans hA
  go_enter Tryz.func81, Tryz.ntmps81
  go_wp2_with fail
  go_ret
  refine ⟨?_, hO.below⟩
  by_cases h : b1 = id <;> simp [h]
end Go.Proofs.YtpjdcpicfkdioaaGreatDoor
/- topo.Bal: which balise group has a number. -/
set_option linter.unusedSimpArgs false
set_option linter.unusedVariables false
namespace Go.Proofs.YtpjdcpicfkdioaaGreatDoor
open Go.RowKit Go.Shelf
def laysIdxBl_ren : Go.Shelf.Ren := ⟨fun | 6 => 80 | n => n, fun | 22 => 24 | 23 => 96 | 25 => 160 | 3 => 3 | 0 => 0 | 4 => 4 | n => n, fun | n => n⟩
theorem laysIdxBl : Go.Proofs.SlLaysH0.n6 Tryz.prog laysIdxBl_ren where
  mixed := by kernel_rfl
  f6 := ⟨"slices.IndexFunc[[]lineside/api.Bal,lineside/api.Bal]", by decide, Tryz.func80.trans (congrArg some (by kernel_rfl))⟩
  t0 := Tryz.underlying0
  a0 := Tryz.isAgg0
  z0 := Tryz.sizeOf0
  v0 := Tryz.zeroValue0
  t3 := Tryz.underlying3
  a3 := Tryz.isAgg3
  z3 := Tryz.sizeOf3
  v3 := Tryz.zeroValue3
  t4 := Tryz.underlying4
  a4 := Tryz.isAgg4
  z4 := Tryz.sizeOf4
  v4 := Tryz.zeroValue4
  t22 := Tryz.underlying24
  a22 := Tryz.isAgg24
  z22 := Tryz.sizeOf24
  v22 := Tryz.zeroValue24
  t25 := Tryz.underlying160
  a25 := Tryz.isAgg160
  z25 := Tryz.sizeOf160
  v25 := Tryz.zeroValue160
instance : Inhabited Bl := ⟨⟨0, 0, 0⟩⟩
theorem enter_bal1 : ∀ args w, (callFunc 81 args).run Tryz.prog w = .ok (.enter 81 args) w := enters_of Tryz.func81 (by kernel_rfl) (by rfl)
theorem idxBl_k (A : Option Addr) (n c : Nat) (bs : List Bl) (id : Int) (p : Addr) (w : World) (hR : RowsAt encBl w A bs) (hn : bs.length = n) (hb : n ≤ 9223372036854775807) (hp : w.cell? p = some (.int .i64 id)) (hpb : p.block < w.heap.size) :
    Calls Tryz.prog 80 #[.slice A n c, .func (.func 81) #[] #[.pointer (some p)]] w fun e w' => e = .returned (.int .i64 (Lib.idxBy (fun _ y => decide (y.id = id)) bs default)) ∧ Below w.heap.size w w' := by
  cases n with
  | zero =>
    have : bs = [] := List.length_eq_zero_iff.1 hn
    subst this
    go_enter Tryz.func80, Tryz.ntmps80
    go_wp2
    go_loopg [5, 8] 0 (fun _ _ s8 wr => s8 = .int .i64 0 ∧ Below w.heap.size w wr)
    case atStart => exact ⟨rfl, Below.refl _ _⟩
    case round =>
      obtain ⟨rfl, hw⟩ := hrel
      go_wp2
      go_ret
      exact ⟨rfl, hw⟩
  | succ n =>
    have h0 : 0 < bs.length := by omega
    obtain ⟨b, off, rfl, hbs, _⟩ := hR.get (List.getElem?_eq_getElem h0)
    have := AnyQ.slices_IndexFunc laysIdxBl 3 Tryz.isAgg96 Tryz.sizeOf96 encBl.enc encBl.len (fun y => decide (y.id = id)) 81 #[.pointer (some p)] enter_bal1 b off (n + 1) c bs w
      (fun W x hW => (tobal1_k x id p W ((hW.cell (p := p) hpb).trans hp) (Nat.lt_of_lt_of_le hpb hW.size)).mono fun _ _ h => ⟨h.1, below_then hW h.2⟩) (by omega) hb hbs ?_
    · rw [← hn, List.take_length] at this
      rw [← hn]
      exact this
    · intro j hj i u hi
      obtain ⟨b', off', e, _, hc⟩ := hR.get (List.getElem?_eq_getElem hj)
      simp only [Option.some.injEq, Addr.mk.injEq] at e
      obtain ⟨rfl, rfl, -⟩ := e
      rw [getElem!_pos bs j hj] at hi
      exact hc i u hi
/-- What the index says. -/
theorem idx_find (q : Bl → Bool) : ∀ (bs : List Bl) (i : Nat), (∃ j, Lib.idxByFrom (fun _ y => q y) default bs i = ((i + j : Nat) : Int) ∧ bs[j]? = bs.find? q ∧ (bs.find? q).isSome = true) ∨ (Lib.idxByFrom (fun _ y => q y) default bs i = -1 ∧ bs.find? q = none)
  | [], i => .inr ⟨rfl, rfl⟩
  | y :: bs, i => by
    rw [Lib.idxByFrom, List.find?_cons]
    cases hq : q y with
    | true => exact .inl ⟨0, by simp, by simp, rfl⟩
    | false =>
      simp only [Bool.false_eq_true, if_false]
      rcases idx_find q bs (i + 1) with ⟨j, h1, h2, h3⟩ | h
      · exact .inl ⟨j + 1, by rw [h1]; congr 1; omega, by rw [List.getElem?_cons_succ]; exact h2, h3⟩
      · exact .inr h
theorem results_ct1 {P : Program} {fn : Func} {a c : Tmp} {t1 : TypeId} (h : fn.results = #[.cell a t1, .tmp c]) (tmps : Array Value) (w : World) (g1 : Nat) (c1 : Array Value) (v : Value) (d1 : TypeDesc)
    (ha : tmps.getD a undef = .pointer (some ⟨g1, 0, none⟩)) (hc : tmps.getD c undef = v) (h1 : Blk w g1 t1 c1)
    (u1 : P.underlying t1 = some d1) (k1 : (match d1 with | .struct _ | .array _ _ => true | _ => false) = true) (i1 : (P.info? t1).map (·.size) = some c1.size) :
    (results fn tmps).run P w = .ok (.tuple #[.agg c1, v]) w := by
  have ha' : tmps[a]?.getD undef = .pointer (some ⟨g1, 0, none⟩) := by simpa using ha
  have hc' : tmps[c]?.getD undef = v := by simpa using hc
  simp [results, h, ha', hc', asAddr, run_loadVar_row w g1 t1 t1 c1 (0, 0) d1 h1 u1 k1 i1]
set_option maxHeartbeats 2000000 in
theorem tobal_k (t : Tp) (v : TpV) (id : Int) (w : World) (hT : RowsAt encBl w v.Ab t.bals) (hn : t.bals.length ≤ 9223372036854775807) : Calls Tryz.prog 37 #[.agg (v.cells t), .int .i64 id] w fun r w' => r = .returned (.tuple #[blV ((balT t id).getD ⟨0, 0, 0⟩), .bool (balT t id).isSome]) ∧ Below w.heap.size w w' := by
  unfold TpV.cells
  have hfind := idx_find (fun b => decide (b.id = id)) t.bals 0
  have hB : (t.bals.find? fun b => decide (b.id = id)) = balT t id := rfl
  rw [hB] at hfind
  generalize balT t id = r at hfind ⊢
  obtain ⟨bs, hbs⟩ : ∃ bs, bs = t.bals := ⟨_, rfl⟩
  rw [← hbs] at hT hn hfind ⊢
  generalize hm : bs.length = n3 at hn ⊢
  generalize t.edges.length = n1
  generalize t.joints.length = n2
  generalize t.routes.length = n4
  obtain ⟨A1, c1, A2, c2, A3, c3, A4, c4, rs⟩ := v
  simp only at hT ⊢
  clear hbs hB
  have hO : Own w _ [_, _, _] := Own.start3 w 27 3 96 #[.slice A1 n1 c1, .slice A2 n2 c2, .slice A3 n3 c3, .slice A4 n4 c4] #[.int .i64 id] #[.int .i64 0, .int .i64 0, .int .i64 0]
  have hcl := hO.b0.cell
  have hid := hO.b1.cell 0
  have hcall := idxBl_k A3 n3 c3 bs id ⟨w.heap.size + 1, 0, none⟩ _ (hT.below hO.below) hm hn hid hO.b1.lt
  unfold Lib.idxBy at hcall
  rcases hfind with ⟨j, h1, h2, h3⟩ | ⟨h1, h2⟩
  · obtain ⟨b, rfl⟩ := Option.isSome_iff_exists.1 h3
    rw [h1, Nat.zero_add] at hcall
    have hj : j < n3 := by rw [← hm]; exact (List.getElem?_eq_some_iff.1 h2).1
    obtain ⟨g, off, rfl, hg, l0, l1, l2⟩ := hT.bl h2
    obtain ⟨b1, b2, b3⟩ := b
    simp only at l0 l1 l2
    have k0 := fun W (hW : Below w.heap.size w W) => (hW.cell (p := ⟨g, off + j * 3, none⟩) hg).trans l0
    have k1 := fun W (hW : Below w.heap.size w W) => (hW.cell (p := ⟨g, off + j * 3 + 1, none⟩) hg).trans l1
    have k2 := fun W (hW : Below w.heap.size w W) => (hW.cell (p := ⟨g, off + j * 3 + 2, none⟩) hg).trans l2
    clear h1 h2 h3 hT l0 l1 l2 hm
    go_enter Tryz.func37, Tryz.ntmps37
    go_wp2_with (first
      | (go_at_call 80; (with_reducible refine hcall.mono ?_); rintro e w1 ⟨rfl, hb1⟩; replace hO := hO.grow hb1; have hcl1 := hO.b0.cell; have m0 := k0 w1 hO.below; have m1 := k1 w1 hO.below; have m2 := k2 w1 hO.below)
      | ((with_reducible refine own_row2 (#[.int .i64 b1, .int .i64 b2, .int .i64 b3]) hO rfl _ _ rfl rfl rfl (by kernel_rfl) rfl ?_ ?_); (· first | rfl | (simp [Value.oneCell']; done)); intro wR hOR hszR hkR; replace hO := hOR; clear hOR)
      )
    exact bodyPost_ret (results_ct1 Tryz.results37 _ _ _ _ _ _ rfl rfl hO.b2 Tryz.underlying96 rfl (by kernel_rfl)) rfl ⟨rfl, hO.below⟩
  · subst h2
    rw [h1] at hcall
    clear h1 hT hm
    go_enter Tryz.func37, Tryz.ntmps37
    go_wp2_with (first
      | (go_at_call 80; (with_reducible refine hcall.mono ?_); rintro e w1 ⟨rfl, hb1⟩; replace hO := hO.grow hb1)
      | ((with_reducible refine own_row2 (#[.int .i64 0, .int .i64 0, .int .i64 0]) hO rfl _ _ rfl rfl rfl (by kernel_rfl) rfl ?_ ?_); (· first | rfl | (simp [Value.oneCell']; done)); intro wR hOR hszR hkR; replace hO := hOR; clear hOR)
      )
    exact bodyPost_ret (results_ct1 Tryz.results37 _ _ _ _ _ _ rfl rfl hO.b2 Tryz.underlying96 rfl (by kernel_rfl)) rfl ⟨rfl, hO.below⟩
end Go.Proofs.YtpjdcpicfkdioaaGreatDoor
