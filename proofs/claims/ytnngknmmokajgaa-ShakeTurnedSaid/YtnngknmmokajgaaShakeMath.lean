/- How a safe connection is made, kept and ended, in plain Lean. -/
import Derived.Test.YtnngknmmokajgaaPduSeal
set_option linter.unusedSimpArgs false
set_option linter.unusedVariables false
namespace Go.Proofs.Ytnngknmmokajgaa
open Go.RowKit

/-- One end of a connection. -/
structure Peer10 where
  side : Int
  train : Int
  base : K4
  state : Int
  a : BitVec 32
  b : BitVec 32
  key : K4
  half : Bool
  a2 : BitVec 32
  b2 : BitVec 32
def key0 : K4 := ⟨0, 0, 0, 0⟩
def Peer10.none_ : Peer10 := ⟨0, 0, key0, 0, 0, 0, key0, false, 0, 0⟩
/-- Its cells. -/
def peerC (p : Peer10) : Array Value := #[.int .i64 p.side, .int .i64 p.train, q32 p.base.k0, q32 p.base.k1, q32 p.base.k2, q32 p.base.k3, .int .i64 p.state, q32 p.a, q32 p.b, q32 p.key.k0, q32 p.key.k1, q32 p.key.k2, q32 p.key.k3, .bool p.half, q32 p.a2, q32 p.b2]
def numbered10 (p : Peer10) : Bool := decide (0 ≤ p.train) && decide (p.train < 16777216)
/-- The direction of what an end sends. -/
def dir10 (p : Peer10) : Int := if p.side = 0 then 0 else 1
/-- Does an end fit a PDU of a kind? -/
def fits10 (p : Peer10) (q : P7) (kind : Int) : Bool := may q && decide (q.kind = kind) && decide (q.dir ≠ dir10 p) && decide (q.train = p.train)
end Go.Proofs.Ytnngknmmokajgaa
