/- Bytes cloned; Take; Data. -/
import Derived.Test.YtnngknmmokajgaaShakeSets
set_option linter.unusedSimpArgs false
set_option linter.unusedVariables false
namespace Go.Proofs.Ytnngknmmokajgaa
open Go.RowKit Go.Shelf

theorem NewBytes.own {w : World} {base : Nat} {A : Option Addr} {c : Nat} {bs : List UInt8} (h : OwnB w base A c bs) : NewBytes base bs (.slice A bs.length c) w := by
  refine ⟨A, c, rfl, h.bytes, fun h0 => ?_⟩
  obtain ⟨g, rfl, h1, h2⟩ := h.addr h0
  exact ⟨g, rfl, h1, h2, fun i _ => World.ownsRow.frozenAt h i⟩
theorem bclone_k (A : Option Addr) (n c : Nat) (bs : List UInt8) (w : World) (hn : bs.length = n) (hB : Bytes w A c bs) (hlen : bs.length ≤ 65536) :
    Calls Try.prog 41 #[.slice A n c] w fun e w' => ∃ v, e = .returned v ∧ NewBytes w.heap.size bs v w' ∧ Below w.heap.size w w' := by
  have q27 : ∀ (W : World) (a : Option Addr) (n c n' c' : Nat), (binOp .eql 27 (.slice a n c) (.slice none n' c')).run Try.prog W = .ok (.bool a.isNone) W := fun W a n c n' c' => Lib.run_eql_slice_nil W _ _ a n c n' c' Try.underlying27
  cases A with
  | none =>
    have h0 : bs = [] := by
      cases bs with
      | nil => rfl
      | cons x xs => obtain ⟨b, off, e, _⟩ := hB.at_ (k := 0) (by simp); cases e
    subst h0
    go_enter Try.func41, Try.ntmps41
    go_wp2
    go_ret
    exact ⟨_, rfl, ⟨none, 0, rfl, Bytes.nil _, fun h => absurd h (by simp)⟩, Below.refl _ _⟩
  | some ad =>
    have hO : OwnB (w.alloc (.cells #[] 5)) w.heap.size (some ⟨w.heap.size, 0, none⟩) 0 [] := ⟨by simp [cellsOf], .inr ⟨w.heap.size, 0, #[], rfl, Nat.le_refl _, Blk.new _ _ _, Nat.le_refl _, Nat.zero_le _, rfl, rfl⟩⟩
    have hb0 : Below w.heap.size w (w.alloc (.cells #[] 5)) := (Below.refl _ _).alloc (Nat.le_refl _) _
    have hlen' := Lib.hid hlen
    have hn' := Lib.hid hn
    clear hn hlen
    go_enter Try.func41, Try.ntmps41
    go_wp2_with (at_builtin; refine wpList_app_bytes rfl _ _ rfl w.heap.size (some ⟨w.heap.size, 0, none⟩) 0 [] 0 rfl rfl hO (some ad) c bs n rfl hn'.out.symm (hB.alloc _) (by have := hlen'.out; simp; omega) (by simp) ?_; intro A2 c2 W2 ho2 hgr2 hb2)
    go_ret
    simp only [List.nil_append] at ho2
    refine ⟨.slice A2 n c2, by simp, ?_, hb0.trans hb2⟩
    have := NewBytes.own ho2
    rwa [hn'.out] at this
end Go.Proofs.Ytnngknmmokajgaa
