/- Bytes in a block of their own; slices.Clone of bytes. -/
import Derived.Test.YtiloammjejggjaaBytesOwn
import Derived.Lib.Hide
import Derived.WalkSpells
import Derived.Test.YtiloammjejggjaaChecked
namespace Go.Proofs.Ytiloammjejggjaa
open Go.RowKit

/-- A value that is a slice which reads as these bytes, in a block of its own at or above base that may be written. -/
def NewBytes (base : Nat) (bs : List UInt8) : Value → World → Prop := fun v w => ∃ A c, v = .slice A bs.length c ∧ Bytes w A c bs ∧
  (0 < bs.length → ∃ g, A = some ⟨g, 0, none⟩ ∧ base ≤ g ∧ g < w.heap.size ∧ ∀ i, i < bs.length → w.frozen? ⟨g, i, none⟩ = false)
theorem NewBytes.is {base : Nat} {bs : List UInt8} {v : Value} {w : World} (h : NewBytes base bs v w) : IsBytes bs v w := by
  obtain ⟨A, c, e, hB, _⟩ := h
  exact ⟨A, c, e, hB⟩
theorem NewBytes.grow {base : Nat} {bs : List UInt8} {v : Value} {w w' : World} (h : NewBytes base bs v w) (hb : Below w.heap.size w w') : NewBytes base bs v w' := by
  obtain ⟨A, c, e, hB, hf⟩ := h
  refine ⟨A, c, e, hB.below hb, fun h0 => ?_⟩
  obtain ⟨g, h1, h2, h3, h4⟩ := hf h0
  exact ⟨g, h1, h2, Nat.lt_of_lt_of_le h3 hb.size, fun i hi => (hb.frozen (p := ⟨g, i, none⟩) h3).trans (h4 i hi)⟩
theorem NewBytes.mono {base base' : Nat} {bs : List UInt8} {v : Value} {w : World} (h : NewBytes base bs v w) (hb : base' ≤ base) : NewBytes base' bs v w := by
  obtain ⟨A, c, e, hB, hf⟩ := h
  refine ⟨A, c, e, hB, fun h0 => ?_⟩
  obtain ⟨g, h1, h2, h3, h4⟩ := hf h0
  exact ⟨g, h1, by omega, h3, h4⟩
theorem NewBytes.own {w : World} {base : Nat} {A : Option Addr} {c : Nat} {bs : List UInt8} (h : OwnB w base A c bs) : NewBytes base bs (.slice A bs.length c) w := by
  refine ⟨A, c, rfl, h.bytes, fun h0 => ?_⟩
  obtain ⟨g, rfl, h1, h2⟩ := h.addr h0
  exact ⟨g, rfl, h1, h2, fun i _ => World.ownsRow.frozenAt h i⟩
theorem bclone_t (A : Option Addr) (n c : Nat) (bs : List UInt8) (w : World) (hn : bs.length = n) (hB : Bytes w A c bs) (hlen : bs.length ≤ 65536) :
    Calls Try.prog 32 #[.slice A n c] w fun e w' => ∃ A' c', e = .returned (.slice A' n c') ∧ OwnB w' w.heap.size A' c' bs ∧ Below w.heap.size w w' := by
  have q27 : ∀ (W : World) (a : Option Addr) (n c n' c' : Nat), (binOp .eql 33 (.slice a n c) (.slice none n' c')).run Try.prog W = .ok (.bool a.isNone) W := fun W a n c n' c' => Lib.run_eql_slice_nil W _ _ a n c n' c' Try.underlying33
  cases A with
  | none =>
    have h0 : bs = [] := by
      cases bs with
      | nil => rfl
      | cons x xs => obtain ⟨b, off, e, _⟩ := hB.at_ (k := 0) (by simp); cases e
    subst h0
    go_enter Try.func32, Try.ntmps32
    go_wp2
    go_ret
    exact ⟨none, 0, by rw [← hn]; rfl, OwnB.nil _ _, Below.refl _ _⟩
  | some ad =>
    have hO : OwnB (w.alloc (.cells #[] 5)) w.heap.size (some ⟨w.heap.size, 0, none⟩) 0 [] := ⟨by simp [cellsOf], .inr ⟨w.heap.size, 0, #[], rfl, Nat.le_refl _, Blk.new _ _ _, Nat.le_refl _, Nat.zero_le _, rfl, rfl⟩⟩
    have hb0 : Below w.heap.size w (w.alloc (.cells #[] 5)) := (Below.refl _ _).alloc (Nat.le_refl _) _
    have hlen' := Lib.hid hlen
    have hn' := Lib.hid hn
    clear hn hlen
    go_enter Try.func32, Try.ntmps32
    go_wp2_with (at_builtin; refine wpList_app_bytes rfl _ _ rfl w.heap.size (some ⟨w.heap.size, 0, none⟩) 0 [] 0 rfl rfl hO (some ad) c bs n rfl hn'.out.symm (hB.alloc _) (by have := hlen'.out; simp; omega) (by simp) ?_; intro A2 c2 W2 ho2 hgr2 hb2)
    go_ret
    simp only [List.nil_append] at ho2
    exact ⟨A2, c2, by simp, ho2, hb0.trans hb2⟩
theorem bclone_k (A : Option Addr) (n c : Nat) (bs : List UInt8) (w : World) (hn : bs.length = n) (hB : Bytes w A c bs) (hlen : bs.length ≤ 65536) :
    Calls Try.prog 32 #[.slice A n c] w fun e w' => ∃ v, e = .returned v ∧ NewBytes w.heap.size bs v w' ∧ Below w.heap.size w w' := by
  refine (bclone_t A n c bs w hn hB hlen).mono ?_
  rintro e w' ⟨A', c', rfl, ho, hb⟩
  refine ⟨_, rfl, ?_, hb⟩
  have := NewBytes.own ho
  rwa [hn] at this
end Go.Proofs.Ytiloammjejggjaa
