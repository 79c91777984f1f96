/- How the ends' functions answer: the words for their results. -/
import Derived.Test.YtnngknmmokajgaaShakeSmall
import Derived.Test.YtnngknmmokajgaaShakeClosed
import Derived.Test.YtnngknmmokajgaaShakeDefs
import Derived.Test.YtnngknmmokajgaaShakeTaken
import Derived.Test.YtnngknmmokajgaaShakeUp
import Derived.Test.YtnngknmmokajgaaGround
set_option linter.unusedSimpArgs false
set_option linter.unusedVariables false
namespace Go.Proofs.Ytnngknmmokajgaa
open Go.RowKit Go.Shelf

/-- A PDU's cells. -/
def pduC (q : P7) (A : Option Addr) (n c : Nat) : Array Value := #[.int .i64 q.kind, .int .i64 q.dir, .int .i64 q.train, q32 q.a, q32 q.b, .slice A n c, q64 q.mac]
theorem peer_size (p : Peer10) : (Try.prog.info? 26).map (·.size) = some (peerC p).size := by kernel_rfl
theorem peer_cells (p : Peer10) : (peerC p).all (·.oneCell') = true := by simp [peerC, Value.oneCell', q32]
theorem pdu_size (q : P7) (A : Option Addr) (n c : Nat) : (Try.prog.info? 30).map (·.size) = some (pduC q A n c).size := by kernel_rfl
theorem pdu_cells (q : P7) (A : Option Addr) (n c : Nat) : (pduC q A n c).all (·.oneCell') = true := by simp [pduC, Value.oneCell', q32, q64]
theorem peer_none : peerC Peer10.none_ = #[.int .i64 0, .int .i64 0, .int .u32 0, .int .u32 0, .int .u32 0, .int .u32 0, .int .i64 0, .int .u32 0, .int .u32 0, .int .u32 0, .int .u32 0, .int .u32 0, .int .u32 0, .bool false, .int .u32 0, .int .u32 0] := by kernel_rfl
theorem pdu_none : pduC P7.none_ none 0 0 = #[.int .i64 0, .int .i64 0, .int .i64 0, .int .u32 0, .int .u32 0, .slice none 0 0, .int .u64 0] := by kernel_rfl
/-- An end, a PDU and an error are told. -/
def Ret10 (w : World) (p : Peer10) (q : P7) (err : Int) (e : Ending) (w' : World) : Prop := ∃ A c, e = .returned (.tuple #[.agg (peerC p), .agg (pduC q A q.body.length c), .int .i64 err]) ∧ Bytes w' A c q.body ∧ Below w.heap.size w w'
/-- An end and an error are told. -/
def RetP10 (w : World) (p : Peer10) (err : Int) (e : Ending) (w' : World) : Prop := e = .returned (.tuple #[.agg (peerC p), .int .i64 err]) ∧ Below w.heap.size w w'
/-- A PDU and an error are told. -/
def RetQ10 (w : World) (q : P7) (err : Int) (e : Ending) (w' : World) : Prop := ∃ A c, e = .returned (.tuple #[.agg (pduC q A q.body.length c), .int .i64 err]) ∧ Bytes w' A c q.body ∧ Below w.heap.size w w'
theorem ret_none (w w' : World) (err : Int) (hb : Below w.heap.size w w') : Ret10 w Peer10.none_ P7.none_ err (.returned (.tuple #[.agg #[.int .i64 0, .int .i64 0, .int .u32 0, .int .u32 0, .int .u32 0, .int .u32 0, .int .i64 0, .int .u32 0, .int .u32 0, .int .u32 0, .int .u32 0, .int .u32 0, .int .u32 0, .bool false, .int .u32 0, .int .u32 0], .agg #[.int .i64 0, .int .i64 0, .int .i64 0, .int .u32 0, .int .u32 0, .slice none 0 0, .int .u64 0], .int .i64 err])) w' := ⟨none, 0, by rw [← peer_none, ← pdu_none]; rfl, Bytes.nil _, hb⟩
theorem side_eq (p : Peer10) (h : p.side = 0) : (p.side == 0) = true ∧ (p.side != 0) = false := by simp [h]
theorem side_ne (p : Peer10) (h : ¬ p.side = 0) : (p.side == 0) = false ∧ (p.side != 0) = true := by simp [h]
theorem peer_side (p : Peer10) : (peerC p)[0]? = some (.int .i64 p.side) := rfl
theorem peer_train (p : Peer10) : (peerC p)[1]? = some (.int .i64 p.train) := rfl
theorem peer_cell (p : Peer10) (i : Nat) : (peerC p)[i]? = (#[.int .i64 p.side, .int .i64 p.train, q32 p.base.k0, q32 p.base.k1, q32 p.base.k2, q32 p.base.k3, .int .i64 p.state, q32 p.a, q32 p.b, q32 p.key.k0, q32 p.key.k1, q32 p.key.k2, q32 p.key.k3, .bool p.half, q32 p.a2, q32 p.b2] : Array Value)[i]? := rfl
end Go.Proofs.Ytnngknmmokajgaa
