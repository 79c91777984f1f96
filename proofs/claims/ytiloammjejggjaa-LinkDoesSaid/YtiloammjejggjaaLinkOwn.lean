/- Messages in a row of the call's own: append, a body stored; slices.Clone of them. -/
import Derived.Test.YtiloammjejggjaaLinkDefs
import Derived.Test.YtiloammjejggjaaOwnLaw
set_option linter.unusedSimpArgs false
set_option linter.unusedVariables false
namespace Go.Proofs.Ytiloammjejggjaa
open Go.RowKit

abbrev wzero : Value := .agg #[.int .i64 0, .int .i64 0, .int .i64 0, .slice none 0 0]
theorem info_wait : (Try.prog.info? 35).map (fun i => (i.zero, i.size, i.bytes)) = some (some wzero, 4, 48) := by kernel_rfl
def OwnW (w : World) (base : Nat) (A : Option Addr) (c : Nat) (xs : List (Wt × Value)) : Prop := w.ownsRow base 35 4 (.slice A xs.length c) xs.length (flat xs)
section
variable {w w' : World} {base : Nat} {A : Option Addr} {c : Nat} {xs : List (Wt × Value)}
theorem OwnW.nil (w : World) (base : Nat) : OwnW w base none 0 [] := World.ownsRow_nil w base _ 4
theorem OwnW.below (h : OwnW w base A c xs) (hb : Below w.heap.size w w') : OwnW w' base A c xs := own_below h hb
theorem OwnW.alloc (h : OwnW w base A c xs) (o : Obj) : OwnW (w.alloc o) base A c xs := World.ownsRow.alloc h o
theorem OwnW.mono {base' : Nat} (h : OwnW w base A c xs) (hb : base' ≤ base) : OwnW w base' A c xs := by
  refine ⟨h.1, ?_⟩
  rcases h.2 with h' | ⟨g, cap, cur, e, h1, h2⟩
  · exact .inl h'
  · exact .inr ⟨g, cap, cur, e, by omega, h2⟩
theorem OwnW.row (h : OwnW w base A c xs) : Row w A (flat xs) := fun h0 => by
  have hr := Reads.of_own h
  rw [flat_length] at h0
  obtain ⟨ad, e, hb, hc⟩ := hr.2 (by omega)
  obtain ⟨g, cap, hv, _, _⟩ := World.ownsRow.form h (by omega)
  simp only [Value.slice.injEq] at hv
  have e2 : some ad = some ⟨g, 0, none⟩ := by rw [← e]; exact hv.1
  injection e2 with e2
  subst e2
  refine ⟨g, 0, e, hb, fun j u hu => ?_⟩
  have := hc j u hu
  rw [Addr.add_lit] at this
  exact this
theorem OwnW.waits (h : OwnW w base A c xs) (hb : ∀ p ∈ xs, IsBytes p.1.body p.2 w) : WaitsAt w A xs := ⟨h.row, hb⟩
theorem OwnW.cap (h : OwnW w base A c xs) : xs.length ≤ c ∧ c ≤ maxLen := by
  rcases h.2 with ⟨e, h0⟩ | ⟨g, cap, cur, e, _, _, h1, h2, _⟩
  · simp only [Value.slice.injEq] at e
    obtain ⟨_, _, rfl⟩ := e
    exact ⟨by omega, Nat.zero_le _⟩
  · simp only [Value.slice.injEq] at e
    obtain ⟨_, _, rfl⟩ := e
    exact ⟨h1, h2⟩
theorem OwnW.row_ge (h : OwnW w base A c xs) : ∀ g, rowOf A = some g → base ≤ g ∧ g < w.heap.size := by
  have := World.ownsRow.lt h
  rw [ownBlock_slice] at this
  exact this
/-- The block whole. -/
theorem OwnW.blk (h : OwnW w base A c xs) (h0 : 0 < xs.length) : ∃ g cur, A = some ⟨g, 0, none⟩ ∧ base ≤ g ∧ Blk w g 35 cur ∧ cur.size = c * 4 ∧ cur.toList.take (xs.length * 4) = flat xs := by
  rcases h.2 with ⟨e, h1⟩ | ⟨g, cap, cur, e, h1, h2, h3, h4, h5, h6⟩
  · omega
  · simp only [Value.slice.injEq] at e
    obtain ⟨rfl, _, rfl⟩ := e
    exact ⟨g, cur, rfl, h1, h2, h5, h6⟩
theorem OwnW.of_blk {g n : Nat} {cur : Array Value} (hg : Blk w g 35 cur) (hB : base ≤ g) (hs : cur.size = c * 4) (hn : xs.length = n) (hc : n ≤ c) (hm : c ≤ maxLen) (ht : cur.toList.take (n * 4) = flat xs) : OwnW w base (some ⟨g, 0, none⟩) c xs := by
  subst hn
  exact ⟨flat_length xs, .inr ⟨g, c, cur, rfl, hB, hg, hc, hm, hs, ht⟩⟩
end
theorem wpList_app_waits {w : World} {ops : Array Oper} {rest : List Oper} {o : Oper} {a : Act} {Q : Exit → Act → World → Prop} (hgd : o.guard = none) (s x : Operand)
    (ho : o.op = .call { callee := .builtin .append, args := #[s, x], argTypes := #[23, 23] })
    (base : Nat) (A1 : Option Addr) (c1 : Nat) (xs : List (Wt × Value)) (n1 : Nat) (hs : a.eval s = .slice A1 n1 c1) (hn1 : n1 = xs.length) (hown : OwnW w base A1 c1 xs)
    (A : Option Addr) (c : Nat) (ys : List (Wt × Value)) (n : Nat) (hx : a.eval x = .slice A n c) (hn : n = ys.length) (hr : Row w A (flat ys)) (h1 : ∀ p ∈ ys, p.2.oneCell' = true) (hlen : xs.length + ys.length ≤ 65536) (hbase : base ≤ w.heap.size)
    (h : ∀ A2 c2 W, OwnW W base A2 c2 (xs ++ ys) → w.grownBy W (rowOf A1) → Below base w W → wpList Try.prog ops Q rest (a.put o.dst (.slice A2 (n1 + n) c2)) W) : wpList Try.prog ops Q (o :: rest) a w := by
  subst hn1
  subst hn
  obtain ⟨i0, hi0, hz0, hz1, hz2⟩ := info_parts info_wait
  have hrd : Reads w w.heap.size 4 A ys.length (flat ys) := ⟨flat_length ys, fun h0 => by
    obtain ⟨b, off, e, hb, hc⟩ := hr (by rw [flat_length]; omega)
    refine ⟨⟨b, off, none⟩, e, hb, fun j u hu => ?_⟩
    rw [show (⟨b, off, none⟩ : Addr).add j = ⟨b, off + j, none⟩ by unfold Addr.add; split <;> simp_all]
    exact hc j u hu⟩
  refine wpList_append_any w hgd s x 23 ho base 35 i0 _ 4 48 Try.underlying23 hi0 hz0 hz1 hz2 rfl (by omega) _ _ _ hs hown w.heap.size A ys.length c (flat ys) hx hrd (flat_one ys h1) (by simp only [maxLen]; omega) (by omega) hbase ?_
  intro v' W h1 h2 h3
  rw [ownBlock_slice] at h2
  have hb : Below base w W := (Below.refl base w).grown h2 hbase (fun k hk => (hown.row_ge k hk).1)
  have h4 : ∃ A2 c2, v' = .slice A2 (xs.length + ys.length) c2 := by
    rcases h1.2 with ⟨e, h0⟩ | ⟨g, cap, _, e, _⟩
    · exact ⟨none, 0, by rw [e, h0]⟩
    · exact ⟨_, _, e⟩
  obtain ⟨A2, c2, rfl⟩ := h4
  refine h A2 c2 W ?_ h2 hb
  unfold OwnW
  rw [List.length_append, flat_append]
  exact h1
theorem wclone_k (A : Option Addr) (n c : Nat) (xs : List (Wt × Value)) (w : World) (hn : xs.length = n) (hW : WaitsAt w A xs) (hlen : n ≤ 65536) :
    Calls Try.prog 40 #[.slice A n c] w fun e w' => ∃ A' c', e = .returned (.slice A' n c') ∧ OwnW w' w.heap.size A' c' xs ∧ Below w.heap.size w w' := by
  have q27 : ∀ (W : World) (a : Option Addr) (n c n' c' : Nat), (binOp .eql 23 (.slice a n c) (.slice none n' c')).run Try.prog W = .ok (.bool a.isNone) W := fun W a n c n' c' => Lib.run_eql_slice_nil W _ _ a n c n' c' Try.underlying23
  cases A with
  | none =>
    have h0 : xs = [] := by
      cases xs with
      | nil => rfl
      | cons x ys => obtain ⟨b, off, e, _⟩ := hW.at_ (k := 0) (p := x) rfl; cases e
    subst h0
    simp only [List.length_nil] at hn
    subst hn
    go_enter Try.func40, Try.ntmps40
    go_wp2
    go_ret
    exact ⟨none, 0, rfl, OwnW.nil _ _, Below.refl _ _⟩
  | some ad =>
    have hO : OwnW (w.alloc (.cells #[] 35)) w.heap.size (some ⟨w.heap.size, 0, none⟩) 0 [] := OwnW.of_blk (n := 0) (Blk.new _ _ _) (Nat.le_refl _) rfl rfl (Nat.le_refl _) (Nat.zero_le _) rfl
    have hb0 : Below w.heap.size w (w.alloc (.cells #[] 35)) := (Below.refl _ _).alloc (Nat.le_refl _) _
    have hlen' := Lib.hid hlen
    have hn' := Lib.hid hn
    clear hn hlen
    go_enter Try.func40, Try.ntmps40
    go_wp2_with (at_builtin; refine wpList_app_waits rfl _ _ rfl w.heap.size (some ⟨w.heap.size, 0, none⟩) 0 [] 0 rfl rfl hO (some ad) c xs n rfl hn'.out.symm (hW.alloc _).row (fun p hp => (hW.body p hp).one) (by have := hlen'.out; have := hn'.out; simp; omega) (by simp) ?_; intro A2 c2 W2 ho2 hgr2 hb2)
    go_ret
    simp only [List.nil_append] at ho2
    exact ⟨A2, c2, by simp, ho2, hb0.trans hb2⟩
end Go.Proofs.Ytiloammjejggjaa
