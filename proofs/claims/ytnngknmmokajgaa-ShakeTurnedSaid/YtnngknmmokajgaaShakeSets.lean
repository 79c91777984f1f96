/- What single stores make of an end; a sealed PDU without a body, as the calls hand it back. -/
import Derived.Test.YtnngknmmokajgaaShakeBase
set_option linter.unusedSimpArgs false
set_option linter.unusedVariables false
namespace Go.Proofs.Ytnngknmmokajgaa
open Go.RowKit Go.Shelf

def setState (p : Peer10) (s : Int) : Peer10 := ⟨p.side, p.train, p.base, s, p.a, p.b, p.key, p.half, p.a2, p.b2⟩
def setA (p : Peer10) (a : BitVec 32) : Peer10 := ⟨p.side, p.train, p.base, p.state, a, p.b, p.key, p.half, p.a2, p.b2⟩
def setB (p : Peer10) (b : BitVec 32) : Peer10 := ⟨p.side, p.train, p.base, p.state, p.a, b, p.key, p.half, p.a2, p.b2⟩
def setKey (p : Peer10) (k : K4) : Peer10 := ⟨p.side, p.train, p.base, p.state, p.a, p.b, k, p.half, p.a2, p.b2⟩
def setHalf (p : Peer10) (h : Bool) : Peer10 := ⟨p.side, p.train, p.base, p.state, p.a, p.b, p.key, h, p.a2, p.b2⟩
def setA2 (p : Peer10) (a : BitVec 32) : Peer10 := ⟨p.side, p.train, p.base, p.state, p.a, p.b, p.key, p.half, a, p.b2⟩
def setB2 (p : Peer10) (b : BitVec 32) : Peer10 := ⟨p.side, p.train, p.base, p.state, p.a, p.b, p.key, p.half, p.a2, b⟩
theorem peer_set6 (p : Peer10) (s : Int) : (peerC p).setIfInBounds 6 (.int .i64 s) = peerC (setState p s) := rfl
theorem peer_set7 (p : Peer10) (a : BitVec 32) : (peerC p).setIfInBounds 7 (q32 a) = peerC (setA p a) := rfl
theorem peer_set8 (p : Peer10) (b : BitVec 32) : (peerC p).setIfInBounds 8 (q32 b) = peerC (setB p b) := rfl
theorem peer_set9 (p : Peer10) (k : K4) : putAt (peerC p) 9 [q32 k.k0, q32 k.k1, q32 k.k2, q32 k.k3] = peerC (setKey p k) := rfl
theorem peer_set13 (p : Peer10) (h : Bool) : (peerC p).setIfInBounds 13 (.bool h) = peerC (setHalf p h) := rfl
theorem peer_set14 (p : Peer10) (a : BitVec 32) : (peerC p).setIfInBounds 14 (q32 a) = peerC (setA2 p a) := rfl
theorem peer_set15 (p : Peer10) (b : BitVec 32) : (peerC p).setIfInBounds 15 (q32 b) = peerC (setB2 p b) := rfl
theorem peer_set14z (p : Peer10) : (peerC p).setIfInBounds 14 (.int .u32 0) = peerC (setA2 p 0) := by kernel_rfl
theorem peer_set15z (p : Peer10) : (peerC p).setIfInBounds 15 (.int .u32 0) = peerC (setB2 p 0) := by kernel_rfl
theorem seal_fields (k : K4) (p : P7) : (seal7 k p).kind = p.kind ∧ (seal7 k p).dir = p.dir ∧ (seal7 k p).train = p.train ∧ (seal7 k p).a = p.a ∧ (seal7 k p).b = p.b ∧ (seal7 k p).body = p.body := by
  unfold seal7
  split <;> exact ⟨rfl, rfl, rfl, rfl, rfl, rfl⟩
theorem pdu_seal (k : K4) (p : P7) (A : Option Addr) (n c : Nat) : pduC (seal7 k p) A n c = #[.int .i64 p.kind, .int .i64 p.dir, .int .i64 p.train, q32 p.a, q32 p.b, .slice A n c, q64 (seal7 k p).mac] := by
  obtain ⟨h1, h2, h3, h4, h5, _⟩ := seal_fields k p
  unfold pduC
  rw [h1, h2, h3, h4, h5]
/-- The program's Seal of a PDU without a body. -/
theorem pseal_nil (k : K4) (kind dir train : Int) (a b : BitVec 32) (w : World) : Calls Try.prog 33 #[.agg #[q32 k.k0, q32 k.k1, q32 k.k2, q32 k.k3], .agg #[.int .i64 kind, .int .i64 dir, .int .i64 train, q32 a, q32 b, .slice none 0 0, .int .u64 0]] w fun e w' => ∃ A c, e = .returned (.agg (pduC (seal7 k ⟨kind, dir, train, a, b, [], 0⟩) A 0 c)) ∧ (∀ W, Bytes W A c []) ∧ Below w.heap.size w w' := by
  refine (pseal_k k kind dir train a b [] 0 none 0 0 w rfl (Bytes.nil _) (by decide)).mono ?_
  rintro e w' ⟨v, rfl, hv, hb⟩
  obtain ⟨bv, rfl, A, c, rfl, hB, _⟩ := hv
  have hbd : (seal7 k ⟨kind, dir, train, a, b, [], 0⟩).body = [] := (seal_fields k _).2.2.2.2.2
  rw [hbd] at hB
  refine ⟨A, c, ?_, fun W => ⟨fun h0 => absurd h0 (by simp [cellsOf]), hB.cap, hB.max⟩, hb⟩
  rw [hbd]
  rfl
/-- The document's Seal of a PDU without a body. -/
theorem rseal_nil (k : K4) (kind dir train : Int) (a b : BitVec 32) (w : World) : Calls Try.prog 35 #[.agg #[q32 k.k0, q32 k.k1, q32 k.k2, q32 k.k3], .agg #[.int .i64 kind, .int .i64 dir, .int .i64 train, q32 a, q32 b, .slice none 0 0, .int .u64 0]] w fun e w' => ∃ A c, e = .returned (.agg (pduC (seal7 k ⟨kind, dir, train, a, b, [], 0⟩) A 0 c)) ∧ (∀ W, Bytes W A c []) ∧ Below w.heap.size w w' := by
  refine (rseal_x k kind dir train a b [] 0 none 0 0 w rfl (Bytes.nil _) (by decide)).mono ?_
  rintro e w' ⟨rfl, hb⟩
  exact ⟨none, 0, by rw [pdu_seal], fun W => Bytes.nil W, hb⟩
theorem ret_seal (w w' : World) (p : Peer10) (k : K4) (q : P7) (hq : q.body = []) (A : Option Addr) (c : Nat) (hN : ∀ W, Bytes W A c []) (hb : Below w.heap.size w w') : Ret10 w p (seal7 k q) 0 (.returned (.tuple #[.agg (peerC p), .agg (pduC (seal7 k q) A 0 c), .int .i64 0])) w' := by
  have : (seal7 k q).body = [] := by rw [(seal_fields k q).2.2.2.2.2, hq]
  refine ⟨A, c, by rw [this]; rfl, by rw [this]; exact hN _, hb⟩
end Go.Proofs.Ytnngknmmokajgaa
