/- What the ends of a connection do, in plain Lean. -/
import Derived.Test.YtnngknmmokajgaaShakeMath
import Derived.Test.YtnngknmmokajgaaPduRight
set_option linter.unusedSimpArgs false
set_option linter.unusedVariables false
namespace Go.Proofs.Ytnngknmmokajgaa
open Go.RowKit

def up10 (p : Peer10) (a b : BitVec 32) : Peer10 := ⟨p.side, p.train, p.base, 2, a, b, Derive p.base a b, p.half, p.a2, p.b2⟩
def closed10 (p : Peer10) : Peer10 := ⟨p.side, p.train, p.base, 0, 0, 0, key0, p.half, p.a2, p.b2⟩
/-- Which error, if any, says that a PDU is not this connection's. -/
def taken10 (p : Peer10) (q : P7) (kind : Int) : Int := if fits10 p q kind = false then 1 else if p.state ≠ 2 then 6 else if q.b ≠ p.b then 110 else if right7 p.key q = false then 90 else 0
def confirmE (p : Peer10) (q : P7) : Int := if p.side ≠ 0 ∨ fits10 p q 2 = false then 1 else if p.state ≠ 1 then 6 else if q.a ≠ p.a then 110 else if right7 p.base q = false then 90 else 0
def confirmP (p : Peer10) (q : P7) : Peer10 := if confirmE p q = 0 then up10 p p.a q.b else Peer10.none_
def confirmQ (p : Peer10) (q : P7) : P7 := if confirmE p q = 0 then seal7 p.base ⟨3, 0, p.train, p.a, q.b, [], 0⟩ else P7.none_
def doneE (p : Peer10) (q : P7) : Int := if p.side = 0 ∨ fits10 p q 3 = false then 1 else if p.half = false then 6 else if q.a ≠ p.a2 ∨ q.b ≠ p.b2 then 110 else if right7 p.base q = false then 90 else 0
def doneP (p : Peer10) (q : P7) : Peer10 := if doneE p q = 0 then ⟨p.side, p.train, p.base, 2, q.a, q.b, Derive p.base q.a q.b, false, 0, 0⟩ else Peer10.none_
def askE (p : Peer10) : Int := if p.side = 0 ∧ numbered10 p = true then 0 else 1
def askP (p : Peer10) (n : BitVec 32) : Peer10 := if askE p = 0 then ⟨p.side, p.train, p.base, 1, n, 0, key0, p.half, p.a2, p.b2⟩ else Peer10.none_
def askQ (p : Peer10) (n : BitVec 32) : P7 := if askE p = 0 then ⟨1, 0, p.train, n, 0, [], 0⟩ else P7.none_
def answerE (p : Peer10) (q : P7) : Int := if p.side = 0 ∨ fits10 p q 1 = false then 1 else 0
def answerP (p : Peer10) (q : P7) (n : BitVec 32) : Peer10 := if answerE p q = 0 then ⟨p.side, p.train, p.base, p.state, p.a, p.b, p.key, true, q.a, n⟩ else Peer10.none_
def answerQ (p : Peer10) (q : P7) (n : BitVec 32) : P7 := if answerE p q = 0 then seal7 p.base ⟨2, 1, p.train, q.a, n, [], 0⟩ else P7.none_
def dataq (p : Peer10) (body : List UInt8) : P7 := ⟨5, dir10 p, p.train, 0, p.b, body, 0⟩
def dataE (p : Peer10) (body : List UInt8) : Int := if p.state ≠ 2 then 6 else if may (dataq p body) = false then 1 else 0
def dataQ (p : Peer10) (body : List UInt8) : P7 := if dataE p body = 0 then seal7 p.key (dataq p body) else P7.none_
def takeB (p : Peer10) (q : P7) : List UInt8 := if taken10 p q 5 = 0 then q.body else []
def endE (p : Peer10) : Int := if p.state ≠ 2 then 6 else if numbered10 p = false then 1 else 0
def endP (p : Peer10) : Peer10 := if endE p = 0 then closed10 p else Peer10.none_
def endQ (p : Peer10) (why : UInt8) : P7 := if endE p = 0 then seal7 p.key ⟨6, dir10 p, p.train, 0, p.b, [why], 0⟩ else P7.none_
def closeP (p : Peer10) (q : P7) : Peer10 := if taken10 p q 6 = 0 then closed10 p else Peer10.none_
/-- The two ends whose connection is made. -/
def endX (base : K4) (train : Int) (a b : BitVec 32) : Peer10 := ⟨0, train, base, 2, a, b, Derive base a b, false, 0, 0⟩
def endY (base : K4) (train : Int) (a b : BitVec 32) : Peer10 := ⟨1, train, base, 2, a, b, Derive base a b, false, 0, 0⟩
def start10 (side train : Int) (base : K4) : Peer10 := ⟨side, train, base, 0, 0, 0, key0, false, 0, 0⟩
def asked10 (train : Int) (base : K4) (a : BitVec 32) : Peer10 := ⟨0, train, base, 1, a, 0, key0, false, 0, 0⟩
def halfY (train : Int) (base : K4) (a b : BitVec 32) : Peer10 := ⟨1, train, base, 0, 0, 0, key0, true, a, b⟩
/-- A sealed PDU. -/
def sealed7 (k : K4) (p : P7) : P7 := ⟨p.kind, p.dir, p.train, p.a, p.b, p.body, Mac k (text p)⟩
theorem seal_is (k : K4) (p : P7) (hm : may p = true) (h1 : p.kind ≠ 1) : seal7 k p = sealed7 k p := by unfold seal7 sealed7; rw [if_pos ⟨hm, h1⟩]
theorem may_sealed (k : K4) (p : P7) (hm : may p = true) (h1 : p.kind ≠ 1) : may (sealed7 k p) = true := by
  rw [may_iff] at hm ⊢
  unfold MayP at hm ⊢
  unfold sealed7
  simp only
  refine ⟨hm.1, hm.2.1, hm.2.2.1, hm.2.2.2.1, ?_⟩
  rcases hm.2.2.2.2 with h | h | h | h | h
  · exact absurd h.1 h1
  · exact .inr (.inl h)
  · exact .inr (.inr (.inl h))
  · exact .inr (.inr (.inr (.inl h)))
  · exact .inr (.inr (.inr (.inr h)))
theorem right_sealed (k : K4) (p : P7) (hm : may p = true) (h1 : p.kind ≠ 1) : right7 k (sealed7 k p) = true := by
  rw [right_yes k _ (may_sealed k p hm h1) h1]
  have ht : text (sealed7 k p) = text p := by
    unfold text
    rw [if_pos (may_sealed k p hm h1), if_pos hm]
    rfl
  rw [ht]
  simp [sealed7]
theorem n21 : (2 : Int) ≠ 1 := by decide
theorem n31 : (3 : Int) ≠ 1 := by decide
theorem n51 : (5 : Int) ≠ 1 := by decide
theorem n61 : (6 : Int) ≠ 1 := by decide
theorem may_mk2 (train : Int) (a b : BitVec 32) (h0 : 0 ≤ train) (h1 : train < 16777216) : may ⟨2, 1, train, a, b, [], 0⟩ = true := by rw [may_iff]; unfold MayP; simp; omega
theorem may_mk3 (train : Int) (a b : BitVec 32) (h0 : 0 ≤ train) (h1 : train < 16777216) : may ⟨3, 0, train, a, b, [], 0⟩ = true := by rw [may_iff]; unfold MayP; simp; omega
theorem may_mk1 (train : Int) (a : BitVec 32) (h0 : 0 ≤ train) (h1 : train < 16777216) : may ⟨1, 0, train, a, 0, [], 0⟩ = true := by rw [may_iff]; unfold MayP; simp; omega
theorem may_mk6 (dir train : Int) (b : BitVec 32) (why : UInt8) (h0 : 0 ≤ train) (h1 : train < 16777216) (d0 : 0 ≤ dir) (d1 : dir ≤ 1) : may ⟨6, dir, train, 0, b, [why], 0⟩ = true := by rw [may_iff]; unfold MayP; simp; omega
theorem may_mk5 (dir train : Int) (b : BitVec 32) (body : List UInt8) (h0 : 0 ≤ train) (h1 : train < 16777216) (d0 : 0 ≤ dir) (d1 : dir ≤ 1) (l1 : 1 ≤ body.length) (l2 : body.length ≤ 1023) : may ⟨5, dir, train, 0, b, body, 0⟩ = true := by
  rw [may_iff]; unfold MayP; simp; omega
section
variable (base : K4) (train : Int) (a b : BitVec 32) (h0 : 0 ≤ train) (h1 : train < 16777216)
include h0 h1
theorem ask_start : askE (start10 0 train base) = 0 ∧ askP (start10 0 train base) a = asked10 train base a ∧ askQ (start10 0 train base) a = ⟨1, 0, train, a, 0, [], 0⟩ := by
  have e : askE (start10 0 train base) = 0 := by unfold askE numbered10 start10; simp [h0, h1]
  refine ⟨e, ?_, ?_⟩
  · unfold askP; rw [if_pos e]; rfl
  · unfold askQ; rw [if_pos e]; rfl
theorem ask_up : askE (endX base train a b) = 0 ∧ (∀ c, askP (endX base train a b) c = asked10 train base c) ∧ ∀ c, askQ (endX base train a b) c = ⟨1, 0, train, c, 0, [], 0⟩ := by
  have e : askE (endX base train a b) = 0 := by unfold askE numbered10 endX; simp [h0, h1]
  refine ⟨e, fun c => ?_, fun c => ?_⟩
  · unfold askP; rw [if_pos e]; rfl
  · unfold askQ; rw [if_pos e]; rfl
theorem answer_start : answerE (start10 1 train base) ⟨1, 0, train, a, 0, [], 0⟩ = 0 ∧ answerP (start10 1 train base) ⟨1, 0, train, a, 0, [], 0⟩ b = halfY train base a b ∧ answerQ (start10 1 train base) ⟨1, 0, train, a, 0, [], 0⟩ b = sealed7 base ⟨2, 1, train, a, b, [], 0⟩ := by
  have e : answerE (start10 1 train base) ⟨1, 0, train, a, 0, [], 0⟩ = 0 := by unfold answerE fits10 start10 dir10; rw [may_mk1 train a h0 h1]; simp
  refine ⟨e, ?_, ?_⟩
  · unfold answerP; rw [if_pos e]; rfl
  · unfold answerQ; rw [if_pos e]; exact seal_is _ _ (may_mk2 train a b h0 h1) n21
theorem answer_up (c d : BitVec 32) : answerE (endY base train a b) ⟨1, 0, train, c, 0, [], 0⟩ = 0 ∧ answerP (endY base train a b) ⟨1, 0, train, c, 0, [], 0⟩ d = ⟨1, train, base, 2, a, b, Derive base a b, true, c, d⟩ ∧ answerQ (endY base train a b) ⟨1, 0, train, c, 0, [], 0⟩ d = sealed7 base ⟨2, 1, train, c, d, [], 0⟩ := by
  have e : answerE (endY base train a b) ⟨1, 0, train, c, 0, [], 0⟩ = 0 := by unfold answerE fits10 endY dir10; rw [may_mk1 train c h0 h1]; simp
  refine ⟨e, ?_, ?_⟩
  · unfold answerP; rw [if_pos e]; rfl
  · unfold answerQ; rw [if_pos e]; exact seal_is _ _ (may_mk2 train c d h0 h1) n21
theorem confirm_asked : confirmE (asked10 train base a) (sealed7 base ⟨2, 1, train, a, b, [], 0⟩) = 0 ∧ confirmP (asked10 train base a) (sealed7 base ⟨2, 1, train, a, b, [], 0⟩) = endX base train a b ∧ confirmQ (asked10 train base a) (sealed7 base ⟨2, 1, train, a, b, [], 0⟩) = sealed7 base ⟨3, 0, train, a, b, [], 0⟩ := by
  have e : confirmE (asked10 train base a) (sealed7 base ⟨2, 1, train, a, b, [], 0⟩) = 0 := by
    unfold confirmE fits10
    rw [may_sealed _ _ (may_mk2 train a b h0 h1) n21]
    have hr := right_sealed base ⟨2, 1, train, a, b, [], 0⟩ (may_mk2 train a b h0 h1) n21
    show (if (asked10 train base a).side ≠ 0 ∨ _ then _ else if _ then _ else if _ then _ else if right7 base (sealed7 base ⟨2, 1, train, a, b, [], 0⟩) = false then _ else _) = _
    rw [hr]
    simp [asked10, sealed7, dir10]
  refine ⟨e, ?_, ?_⟩
  · unfold confirmP; rw [if_pos e]; rfl
  · unfold confirmQ; rw [if_pos e]; exact seal_is _ _ (may_mk3 train a b h0 h1) n31
theorem done_half : doneE (halfY train base a b) (sealed7 base ⟨3, 0, train, a, b, [], 0⟩) = 0 ∧ doneP (halfY train base a b) (sealed7 base ⟨3, 0, train, a, b, [], 0⟩) = endY base train a b := by
  have e : doneE (halfY train base a b) (sealed7 base ⟨3, 0, train, a, b, [], 0⟩) = 0 := by
    unfold doneE fits10
    rw [may_sealed _ _ (may_mk3 train a b h0 h1) n31]
    have hr := right_sealed base ⟨3, 0, train, a, b, [], 0⟩ (may_mk3 train a b h0 h1) n31
    show (if (halfY train base a b).side = 0 ∨ _ then _ else if _ then _ else if _ then _ else if right7 base (sealed7 base ⟨3, 0, train, a, b, [], 0⟩) = false then _ else _) = _
    rw [hr]
    simp [halfY, sealed7, dir10]
  refine ⟨e, ?_⟩
  unfold doneP; rw [if_pos e]; rfl
/-- A question of another number is not answered by this. -/
theorem confirm_other (other : K4) (c d : BitVec 32) (h : a ≠ c) : confirmE (asked10 train base a) (sealed7 other ⟨2, 1, train, c, d, [], 0⟩) = 110 := by
  unfold confirmE fits10
  rw [may_sealed _ _ (may_mk2 train c d h0 h1) n21]
  have h' : c ≠ a := fun e => h e.symm
  simp [asked10, sealed7, dir10, h']
end
/-- An end that is up, of this train and B and key. -/
structure IsUp (p : Peer10) (train : Int) (b : BitVec 32) (key : K4) : Prop where
  state : p.state = 2
  train : p.train = train
  b : p.b = b
  key : p.key = key
theorem endX_up (base : K4) (train : Int) (a b : BitVec 32) : IsUp (endX base train a b) train b (Derive base a b) := ⟨rfl, rfl, rfl, rfl⟩
theorem endY_up (base : K4) (train : Int) (a b : BitVec 32) : IsUp (endY base train a b) train b (Derive base a b) := ⟨rfl, rfl, rfl, rfl⟩
theorem dir_lo (p : Peer10) : 0 ≤ dir10 p ∧ dir10 p ≤ 1 := by unfold dir10; split <;> decide
def sent7 (key : K4) (dir train : Int) (b : BitVec 32) (body : List UInt8) : P7 := sealed7 key ⟨5, dir, train, 0, b, body, 0⟩
theorem data_up {p : Peer10} {train : Int} {b : BitVec 32} {key : K4} (h : IsUp p train b key) (h0 : 0 ≤ train) (h1 : train < 16777216) (body : List UInt8) (l1 : 1 ≤ body.length) (l2 : body.length ≤ 1023) :
    dataE p body = 0 ∧ dataQ p body = sent7 key (dir10 p) train b body := by
  obtain ⟨hs, rfl, rfl, rfl⟩ := h
  have hm := may_mk5 (dir10 p) p.train p.b body h0 h1 (dir_lo p).1 (dir_lo p).2 l1 l2
  have e : dataE p body = 0 := by unfold dataE dataq; rw [hm, hs]; rfl
  refine ⟨e, ?_⟩
  unfold dataQ dataq; rw [if_pos e]; exact seal_is _ _ hm n51
theorem take_same {p : Peer10} {train : Int} {b : BitVec 32} {key : K4} (h : IsUp p train b key) (h0 : 0 ≤ train) (h1 : train < 16777216) (dir : Int) (d0 : 0 ≤ dir) (d1 : dir ≤ 1) (hd : dir ≠ dir10 p) (body : List UInt8) (l1 : 1 ≤ body.length) (l2 : body.length ≤ 1023) :
    taken10 p (sent7 key dir train b body) 5 = 0 ∧ takeB p (sent7 key dir train b body) = body := by
  obtain ⟨hs, rfl, rfl, rfl⟩ := h
  have hm := may_mk5 dir p.train p.b body h0 h1 d0 d1 l1 l2
  have e : taken10 p (sent7 p.key dir p.train p.b body) 5 = 0 := by
    unfold taken10 fits10 sent7
    rw [may_sealed _ _ hm n51, right_sealed _ _ hm n51, hs]
    simp [sealed7, hd]
  refine ⟨e, ?_⟩
  unfold takeB; rw [if_pos e]; rfl
theorem take_own {p : Peer10} (key : K4) (train : Int) (b : BitVec 32) (body : List UInt8) (k : Int) : taken10 p (sent7 key (dir10 p) train b body) k = 1 := by
  unfold taken10 fits10 sent7 sealed7
  simp
theorem take_stale {p : Peer10} {train : Int} {b : BitVec 32} {key : K4} (h : IsUp p train b key) (h0 : 0 ≤ train) (h1 : train < 16777216) (k2 : K4) (d : BitVec 32) (dir : Int) (d0 : 0 ≤ dir) (d1 : dir ≤ 1) (hd : dir ≠ dir10 p) (body : List UInt8) (l1 : 1 ≤ body.length) (l2 : body.length ≤ 1023) (hb : b ≠ d) :
    taken10 p (sent7 k2 dir train d body) 5 = 110 := by
  obtain ⟨hs, rfl, rfl, rfl⟩ := h
  have hm := may_mk5 dir p.train d body h0 h1 d0 d1 l1 l2
  unfold taken10 fits10 sent7
  rw [may_sealed _ _ hm n51, hs]
  have hb' : d ≠ p.b := fun e => hb e.symm
  simp [sealed7, hd, hb']
theorem end_up {p : Peer10} {train : Int} {b : BitVec 32} {key : K4} (h : IsUp p train b key) (h0 : 0 ≤ train) (h1 : train < 16777216) (why : UInt8) :
    endE p = 0 ∧ endP p = closed10 p ∧ endQ p why = sealed7 key ⟨6, dir10 p, train, 0, b, [why], 0⟩ := by
  obtain ⟨hs, rfl, rfl, rfl⟩ := h
  have e : endE p = 0 := by unfold endE numbered10; rw [hs]; simp [h0, h1]
  refine ⟨e, by unfold endP; rw [if_pos e], ?_⟩
  unfold endQ; rw [if_pos e]
  exact seal_is _ _ (may_mk6 (dir10 p) p.train p.b why h0 h1 (dir_lo p).1 (dir_lo p).2) n61
theorem close_same {p : Peer10} {train : Int} {b : BitVec 32} {key : K4} (h : IsUp p train b key) (h0 : 0 ≤ train) (h1 : train < 16777216) (dir : Int) (d0 : 0 ≤ dir) (d1 : dir ≤ 1) (hd : dir ≠ dir10 p) (why : UInt8) :
    taken10 p (sealed7 key ⟨6, dir, train, 0, b, [why], 0⟩) 6 = 0 ∧ closeP p (sealed7 key ⟨6, dir, train, 0, b, [why], 0⟩) = closed10 p := by
  obtain ⟨hs, rfl, rfl, rfl⟩ := h
  have hm := may_mk6 dir p.train p.b why h0 h1 d0 d1
  have e : taken10 p (sealed7 p.key ⟨6, dir, p.train, 0, p.b, [why], 0⟩) 6 = 0 := by
    unfold taken10 fits10
    rw [may_sealed _ _ hm n61, right_sealed _ _ hm n61, hs]
    simp [sealed7, hd]
  refine ⟨e, ?_⟩
  unfold closeP; rw [if_pos e]
theorem data_closed (p : Peer10) (body : List UInt8) : dataE (closed10 p) body = 6 ∧ dataQ (closed10 p) body = P7.none_ := by
  have e : dataE (closed10 p) body = 6 := by unfold dataE closed10; rfl
  exact ⟨e, by unfold dataQ; rw [e]; rfl⟩
/-- What is not right under this key is not taken. -/
theorem taken_wrong (p : Peer10) (q : P7) (k : Int) (h : right7 p.key q = false) : taken10 p q k ≠ 0 := by
  unfold taken10
  rw [h]
  split
  · decide
  · split
    · decide
    · split
      · decide
      · decide
theorem confirm_wrong (p : Peer10) (q : P7) (h : right7 p.base q = false) : confirmE p q ≠ 0 := by
  unfold confirmE
  rw [h]
  split
  · decide
  · split
    · decide
    · split
      · decide
      · decide
end Go.Proofs.Ytnngknmmokajgaa
