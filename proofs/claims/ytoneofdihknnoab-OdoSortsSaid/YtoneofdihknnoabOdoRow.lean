/- Readings in a row of the call's own: append, slices of it. -/
import Derived.Test.YtoneofdihknnoabOdoNone
import Derived.Test.YtoneofdihknnoabRegionTL
set_option linter.unusedSimpArgs false
set_option linter.unusedVariables false
namespace Go.Proofs.Ytoneofdihknnoab
open Go.RowKit Go.Shelf Go.Sort Ieee

section
variable {P : Program} (w : World)
/-- What an append leaves of the row that it was given. -/
theorem append_keeps (base : Nat) (t ty e : TypeId) (i : TypeInfo) (z : Value) (size bytes : Nat) (ht : P.underlying t = some (.slice e)) (hi : P.info? e = some i) (hz : i.zero = some z)
    (hsize : i.size = size) (hby : i.bytes = bytes) (hzs : z.cells.size = size) (hsz : 0 < size)
    (v : Value) (n : Nat) (xs : List Value) (hown : w.ownsRow base e size v n xs)
    (a : Addr) (m c : Nat) (news : List Value) (hl : news.length = m * size) (hnews : ∀ j u, news[j]? = some u → w.cell? (a.add j) = some u) (h1 : ∀ u ∈ news, u.oneCell' = true)
    (h63 : n + m ≤ maxLen) (hbytes : (n + m) * bytes ≤ 140737488355328) (v' : Value) (w' : World) (hrun : (Builtin.append_ #[t, t] ty #[v, .slice (some a) m c]).run P w = .ok v' w') :
    w'.ownsRow base e size v n xs ∧ ∀ g cap, v = .slice (some ⟨g, 0, none⟩) n cap → cap < n + m → ∀ k, k < w.heap.size → w'.heap[k]? = w.heap[k]? := by
  subst hsize
  subst hby
  have hsmall : n + m ≤ 9223372036854775807 := by simp only [maxLen] at h63; omega
  rcases hown.2 with ⟨rfl, rfl⟩ | ⟨g, cap, cur, rfl, hbg, hg, hnc, hcm, hcs, htake⟩
  · have hx : xs = [] := List.eq_nil_of_length_eq_zero (by simpa using hown.1)
    subst hx
    exact ⟨World.ownsRow_nil w' base e i.size, fun g cap h => by cases h⟩
  · by_cases hroom : n + m ≤ cap
    · have hfit : n * i.size + news.length ≤ cur.size := by rw [hl, hcs, ← Nat.add_mul]; exact Nat.mul_le_mul_right _ hroom
      have hr := run_append_room (P := P) w t ty e i ht hi g n cap cur hg a m c news hl hnews h1 hroom hfit
      rw [hr] at hrun
      injection hrun with _ hw
      subst hw
      refine ⟨⟨hown.1, .inr ⟨g, cap, _, rfl, hbg, setRow_heap w g cur _ e _ hg, hnc, hcm, ?_, ?_⟩⟩, fun g' cap' h hlt => ?_⟩
      · simp only [List.size_toArray, List.length_append, List.length_take, List.length_drop, Array.length_toList]
        omega
      · rw [htake]
        have : xs.length = n * i.size := hown.1
        rw [← this]
        simp
      · simp only [Value.slice.injEq] at h
        obtain ⟨_, _, rfl⟩ := h
        omega
    · have holds : ∀ j u, xs[j]? = some u → w.cell? ((⟨g, 0, none⟩ : Addr).add j) = some u := hown.cells (g := g) rfl
      have hr := run_append_grow (P := P) w t ty e i z ht hi hz ⟨g, 0, none⟩ n cap xs hown.1 holds a m c news hl hnews (by omega) (by omega) (growslice_fits (by omega) hbytes)
      rw [hr] at hrun
      injection hrun with _ hw
      subst hw
      have hk : ∀ k, k < w.heap.size → (w.drew.alloc (.cells (xs.toArray ++ news.toArray ++ Builtin.zeroCells z.cells (grownCap w (n + m) cap e - (n + m))) e)).heap[k]? = w.heap[k]? := fun k hk => Below.heap_alloc w.drew _ k hk
      have hgl : g < w.heap.size := by
        rcases Nat.lt_or_ge g w.heap.size with h | h
        · exact h
        · rw [Array.getElem?_eq_none h] at hg; cases hg
      exact ⟨⟨hown.1, .inr ⟨g, cap, cur, rfl, hbg, (hk g hgl).trans hg, hnc, hcm, hcs, htake⟩⟩, fun _ _ _ _ => hk⟩
end
def OwnF (w : World) (base : Nat) (A : Option Addr) (c : Nat) (xs : List UInt64) : Prop := w.ownsRow base 26 1 (.slice A xs.length c) xs.length (xs.map encF)
def rowF (A : Option Addr) : Option Nat := A.map (·.block)
theorem info_f64 : (Try.prog.info? 26).map (fun i => (i.zero, i.size, i.bytes)) = some (some (.float .f64 0), 1, 8) := by kernel_rfl
section
variable {w w' : World} {base : Nat} {A : Option Addr} {c : Nat} {xs : List UInt64}
theorem OwnF.nil (w : World) (base : Nat) : OwnF w base none 0 [] := World.ownsRow_nil w base _ 1
theorem OwnF.off {R : Option Nat} (h : OwnF w base A c xs) (hg : w.grownBy w' R) (hR : ∀ g, rowF A = some g → R ≠ some g) : OwnF w' base A c xs := by
  refine ⟨h.1, ?_⟩
  rcases h.2 with h' | ⟨g, cap, cur, e, h1, h2, h3⟩
  · exact .inl h'
  · have hlt : g < w.heap.size := by
      rcases Nat.lt_or_ge g w.heap.size with h | h
      · exact h
      · rw [Array.getElem?_eq_none h] at h2; cases h2
    have hA : rowF A = some g := by
      simp only [Value.slice.injEq] at e
      rw [e.1]; rfl
    exact .inr ⟨g, cap, cur, e, h1, (hg.block g hlt (fun e => hR g hA e.symm)).trans h2, h3⟩
theorem OwnF.below (h : OwnF w base A c xs) (hb : Below w.heap.size w w') : OwnF w' base A c xs := h.off (R := none) ⟨hb.os, hb.tape, hb.output, hb.size, fun k hk _ => hb.block k hk⟩ (fun g _ e => by cases e)
theorem OwnF.mono {base' : Nat} (h : OwnF w base A c xs) (hb : base' ≤ base) : OwnF w base' A c xs := by
  refine ⟨h.1, ?_⟩
  rcases h.2 with h' | ⟨g, cap, cur, e, h1, h2⟩
  · exact .inl h'
  · exact .inr ⟨g, cap, cur, e, by omega, h2⟩
theorem OwnF.blk (h : OwnF w base A c xs) (h0 : A ≠ none) : ∃ g cur, A = some ⟨g, 0, none⟩ ∧ base ≤ g ∧ Blk w g 26 cur ∧ cur.size = c ∧ xs.length ≤ c ∧ c ≤ maxLen ∧ cur.toList.take xs.length = xs.map encF := by
  rcases h.2 with ⟨e, _⟩ | ⟨g, cap, cur, e, h1, h2, h3, h4, h5, h6⟩
  · simp only [Value.slice.injEq] at e
    exact absurd e.1 h0
  · simp only [Value.slice.injEq] at e
    obtain ⟨rfl, _, rfl⟩ := e
    exact ⟨g, cur, rfl, h1, h2, by rw [h5, Nat.mul_one], h3, h4, by rw [← h6, Nat.mul_one]⟩
theorem OwnF.some_ (h : OwnF w base A c xs) (h0 : 0 < xs.length) : A ≠ none := by
  rintro rfl
  rcases h.2 with ⟨e, h1⟩ | ⟨g, cap, cur, e, _⟩
  · omega
  · simp only [Value.slice.injEq] at e
    cases e.1
theorem OwnF.at_ (h : OwnF w base A c xs) {k : Nat} (hk : k < xs.length) : ∃ g, A = some ⟨g, 0, none⟩ ∧ base ≤ g ∧ g < w.heap.size ∧ w.cell? ⟨g, k, none⟩ = some (encF xs[k]!) := by
  obtain ⟨g, cur, rfl, h1, h2, h3, h4, h5, h6⟩ := h.blk (h.some_ (by omega))
  refine ⟨g, rfl, h1, h2.lt, ?_⟩
  rw [h2.cell, ← Array.getElem?_toList, ← List.getElem?_take_of_lt hk, h6, List.getElem?_map, getElem!_pos xs k hk, List.getElem?_eq_getElem hk]
  rfl
theorem OwnF.cap (h : OwnF w base A c xs) : xs.length ≤ c ∧ c ≤ maxLen ∧ (A = none → c = 0) := by
  rcases h.2 with ⟨e, h0⟩ | ⟨g, cap, cur, e, _, _, h1, h2, _⟩
  · simp only [Value.slice.injEq] at e
    obtain ⟨_, _, rfl⟩ := e
    exact ⟨by omega, Nat.zero_le _, fun _ => rfl⟩
  · simp only [Value.slice.injEq] at e
    obtain ⟨rfl, _, rfl⟩ := e
    exact ⟨h1, h2, fun h => by cases h⟩
theorem OwnF.row_ge (h : OwnF w base A c xs) : ∀ g, rowF A = some g → base ≤ g ∧ g < w.heap.size := by
  intro g hg
  have hA : A ≠ none := by rintro rfl; cases hg
  obtain ⟨g', cur, rfl, h1, h2, _⟩ := h.blk hA
  simp [rowF] at hg
  subst hg
  exact ⟨h1, h2.lt⟩
end
/-- Some of the readings that lie at A, from i on. -/
def RowF (w : World) (A : Option Addr) (ys : List UInt64) : Prop := 0 < ys.length → ∃ b off, A = some ⟨b, off, none⟩ ∧ b < w.heap.size ∧ ∀ j, j < ys.length → w.cell? ⟨b, off + j, none⟩ = some (encF ys[j]!)
theorem RowF.below {w w' : World} {A : Option Addr} {ys : List UInt64} (h : RowF w A ys) (hb : Below w.heap.size w w') : RowF w' A ys := fun h0 => by
  obtain ⟨b, off, e, hlt, hc⟩ := h h0
  exact ⟨b, off, e, Nat.lt_of_lt_of_le hlt hb.size, fun j hj => (hb.cell (p := ⟨b, off + j, none⟩) hlt).trans (hc j hj)⟩
theorem RowF.reads {w : World} {A : Option Addr} {ys : List UInt64} {n : Nat} (h : RowF w A ys) (hn : ys.length = n) : Reads w w.heap.size 1 A n (ys.map encF) := ⟨by simp [hn], fun h0 => by
  obtain ⟨b, off, e, hlt, hc⟩ := h (by omega)
  refine ⟨⟨b, off, none⟩, e, hlt, fun j u hu => ?_⟩
  rw [Addr.add_lit]
  rw [List.getElem?_map] at hu
  have hj : j < ys.length := by
    rcases Nat.lt_or_ge j ys.length with h | h
    · exact h
    · rw [List.getElem?_eq_none h] at hu; cases hu
  rw [hc j hj, getElem!_pos ys j hj]
  rw [List.getElem?_eq_getElem hj] at hu
  exact hu⟩
theorem OwnF.rowF {w : World} {base c : Nat} {A : Option Addr} {xs : List UInt64} (h : OwnF w base A c xs) : RowF w A xs := fun h0 => by
  obtain ⟨g, rfl, _, hlt, _⟩ := h.at_ h0
  refine ⟨g, 0, rfl, hlt, fun j hj => ?_⟩
  obtain ⟨g', e, _, _, hc⟩ := h.at_ hj
  simp only [Option.some.injEq, Addr.mk.injEq, true_and, and_true] at e
  subst e
  rw [Nat.zero_add]; exact hc
/-- The address of a slice from i on. -/
def cutF (A : Option Addr) (i c : Nat) : Option Addr := if c = i then A else A.map (·.add i)
theorem cutF_zero (A : Option Addr) (c : Nat) : cutF A 0 c = A := by
  unfold cutF
  split
  · rfl
  · cases A with
    | none => rfl
    | some a => simp [Addr.add]
theorem OwnF.cut {w : World} {base c : Nat} {A : Option Addr} {xs : List UInt64} (h : OwnF w base A c xs) (i m : Nat) (him : i + m ≤ xs.length) : RowF w (cutF A i c) ((xs.drop i).take m) := fun h0 => by
  have hl : ((xs.drop i).take m).length = m := by simp; omega
  rw [hl] at h0
  obtain ⟨g, rfl, _, hlt, _⟩ := h.at_ (k := 0) (by omega)
  have := h.cap.1
  unfold cutF
  rw [if_neg (by omega)]
  refine ⟨g, i, ?_, hlt, fun j hj => ?_⟩
  · by_cases hi : i = 0 <;> simp [Addr.add, hi]
  · rw [hl] at hj
    obtain ⟨g', e, _, _, hc⟩ := h.at_ (k := i + j) (by omega)
    simp only [Option.some.injEq, Addr.mk.injEq, true_and, and_true] at e
    subst e
    rw [hc]
    congr 2
    rw [getElem!_pos xs (i + j) (by omega), getElem!_pos _ j (by omega)]
    simp
theorem encF_ones (ys : List UInt64) : ∀ u ∈ ys.map encF, u.oneCell' = true := by
  intro u hu
  obtain ⟨x, _, rfl⟩ := List.mem_map.1 hu
  rfl
theorem wp_app_f {w : World} {o : Oper} {a : Act} {K : Act → World → Prop} {Q : Exit → Act → World → Prop} (s x : Operand)
    (ho : o.op = .call { callee := .builtin .append, args := #[s, x], argTypes := #[22, 22] })
    (base : Nat) (A1 : Option Addr) (c1 : Nat) (xs : List UInt64) (n1 : Nat) (hs : a.eval s = .slice A1 n1 c1) (hn1 : xs.length = n1) (hown : OwnF w base A1 c1 xs)
    (A : Option Addr) (c : Nat) (ys : List UInt64) (n : Nat) (hx : a.eval x = .slice A n c) (hn : ys.length = n) (hr : RowF w A ys) (hlen : n1 + n ≤ 60000) (hbase : base ≤ w.heap.size)
    (h : ∀ A2 c2 W, OwnF W base A2 c2 (xs ++ ys) → w.grownBy W (rowF A1) → (rowF A2 = rowF A1 ∨ rowF A2 = some w.heap.size) → OwnF W base A1 c1 xs → (∀ g, A1 = some ⟨g, 0, none⟩ → c1 < n1 + n → ∀ k, k < w.heap.size → W.heap[k]? = w.heap[k]?) → (n1 + n = 0 → A1 = none → A2 = none) → K (a.put o.dst (.slice A2 (n1 + n) c2)) W) : o.wp Try.prog a w K Q := by
  subst hn1
  subst hn
  obtain ⟨i0, hi0, hz0, hz1, hz2⟩ := info_parts info_f64
  have hrd := hr.reads rfl
  have h63 : xs.length + ys.length ≤ maxLen := by simp only [maxLen]; omega
  obtain ⟨v', W, hrun, h1, h2, h3⟩ := run_append_any (P := Try.prog) w base 22 o.type 26 i0 _ 1 8 Try.underlying22 hi0 hz0 hz1 hz2 rfl (by omega) _ _ _ hown w.heap.size A ys.length c (ys.map encF) hrd (encF_ones ys) h63 (by omega) hbase
  have hob : (Value.slice A1 xs.length c1).ownBlock = rowF A1 := by cases A1 <;> rfl
  rw [hob] at h2 h3
  have hkeep : OwnF W base A1 c1 xs ∧ (∀ g, A1 = some ⟨g, 0, none⟩ → c1 < xs.length + ys.length → ∀ k, k < w.heap.size → W.heap[k]? = w.heap[k]?) := by
    cases A with
    | some ad =>
      have hnews : ∀ j u, (ys.map encF)[j]? = some u → w.cell? (ad.add j) = some u := by
        intro j u hu
        by_cases h0 : 0 < ys.length
        · obtain ⟨ad', e, _, hc⟩ := hrd.2 h0
          injection e with e
          subst e
          exact hc j u hu
        · have : ys = [] := List.eq_nil_of_length_eq_zero (by omega)
          subst this
          simp at hu
      have := append_keeps (P := Try.prog) w base 22 o.type 26 i0 _ 1 8 Try.underlying22 hi0 hz0 hz1 hz2 rfl (by omega) _ _ _ hown ad ys.length c (ys.map encF) (by simp) hnews (encF_ones ys) h63 (by omega) v' W hrun
      exact ⟨this.1, fun g e hlt => this.2 g c1 (by rw [e]) hlt⟩
    | none =>
      have h0 : ys = [] := by
        cases ys with
        | nil => rfl
        | cons y ys => obtain ⟨b, off, e, _⟩ := hr (by simp); cases e
      subst h0
      have hr0 := run_append_of_nil (P := Try.prog) w base 22 o.type 26 i0 1 Try.underlying22 hi0 _ _ _ hown c
      simp only [List.length_nil] at hrun
      rw [hr0] at hrun
      injection hrun with _ hw
      subst hw
      exact ⟨hown, fun g e hlt k hk => rfl⟩
  have h4 : ∃ A2 c2, v' = .slice A2 (xs.length + ys.length) c2 := by
    rcases h1.2 with ⟨e, h0⟩ | ⟨g, cap, _, e, _⟩
    · exact ⟨none, 0, by rw [e, h0]⟩
    · exact ⟨_, _, e⟩
  obtain ⟨A2, c2, rfl⟩ := h4
  have hob2 : (Value.slice A2 (xs.length + ys.length) c2).ownBlock = rowF A2 := by cases A2 <;> rfl
  rw [hob2] at h3
  have hnil : xs.length + ys.length = 0 → A1 = none → A2 = none := by
    rintro h0 rfl
    have hy : ys = [] := List.eq_nil_of_length_eq_zero (by omega)
    have hxs : xs = [] := List.eq_nil_of_length_eq_zero (by omega)
    subst hy hxs
    have hc1 := hown.cap.2.2 rfl
    subst hc1
    cases A with
    | none =>
      have hr0 := run_append_of_nil (P := Try.prog) w base 22 o.type 26 i0 1 Try.underlying22 hi0 _ _ _ hown c
      simp only [List.length_nil] at hrun hr0
      rw [hr0] at hrun
      injection hrun with hv _
      simp only [Value.slice.injEq] at hv
      exact hv.1.symm
    | some ad =>
      obtain ⟨v2, w2, hr2, _, _, hiff, _⟩ := run_append_own_at (P := Try.prog) w base 22 o.type 26 i0 _ 1 8 Try.underlying22 hi0 hz0 hz1 hz2 rfl (by omega) _ _ _ hown ad 0 c [] rfl (by simp) (by simp) (by simp [maxLen]) (by simp) hbase
      simp only [List.length_nil] at hrun hr2
      rw [hr2] at hrun
      injection hrun with hv _
      have := hiff.2 ⟨rfl, rfl⟩
      rw [this] at hv
      simp only [Value.slice.injEq] at hv
      exact hv.1.symm
  unfold Oper.wp execOp
  simp only [ho, resolve, invoke, builtin, Sem.run_bind, Sem.run_pure, Result.andThen_ok, List.map_toArray, List.map_cons, List.map_nil, hs, hx, hrun]
  refine h A2 c2 W ?_ h2 h3 hkeep.1 hkeep.2 hnil
  unfold OwnF
  rw [List.length_append, List.map_append]
  exact h1
theorem wpList_app_f {w : World} {ops : Array Oper} {rest : List Oper} {o : Oper} {a : Act} {Q : Exit → Act → World → Prop} (hgd : o.guard = none) (s x : Operand)
    (ho : o.op = .call { callee := .builtin .append, args := #[s, x], argTypes := #[22, 22] })
    (base : Nat) (A1 : Option Addr) (c1 : Nat) (xs : List UInt64) (n1 : Nat) (hs : a.eval s = .slice A1 n1 c1) (hn1 : xs.length = n1) (hown : OwnF w base A1 c1 xs)
    (A : Option Addr) (c : Nat) (ys : List UInt64) (n : Nat) (hx : a.eval x = .slice A n c) (hn : ys.length = n) (hr : RowF w A ys) (hlen : n1 + n ≤ 60000) (hbase : base ≤ w.heap.size)
    (h : ∀ A2 c2 W, OwnF W base A2 c2 (xs ++ ys) → w.grownBy W (rowF A1) → (rowF A2 = rowF A1 ∨ rowF A2 = some w.heap.size) → wpList Try.prog ops Q rest (a.put o.dst (.slice A2 (n1 + n) c2)) W) : wpList Try.prog ops Q (o :: rest) a w :=
  wpList_plain hgd fun _ hK => wp_app_f s x ho base A1 c1 xs n1 hs hn1 hown A c ys n hx hn hr hlen hbase fun A2 c2 W h1 h2 h3 _ _ _ => hK _ _ (h A2 c2 W h1 h2 h3)
section
variable (w : World) (a : Option Addr) (len cap : Nat)
theorem f64_of : Try.prog.underlying 22 = some (.slice (Try.prog.elem 22)) := by kernel_rfl
theorem f64_size : (sizeOf (Try.prog.elem 22)).run Try.prog w = .ok 1 w := by
  have h : (Try.prog.info? (Try.prog.elem 22)).map (·.size) = some 1 := by kernel_rfl
  cases hq : Try.prog.info? (Try.prog.elem 22) with
  | none => rw [hq] at h; cases h
  | some j =>
    have hj : j.size = 1 := by simpa [hq] using h
    simp [sizeOf, typeInfo, hq, hj]
theorem slice_floats_l (kl : IntKind) (l : Int) (h0 : 0 ≤ l) (h1 : l ≤ len) :
    (Instr.slice 22 (.slice a len cap) (some (.int kl l)) none none).run Try.prog w = .ok (.slice (cutF a l.toNat cap) (len - l.toNat) (cap - l.toNat)) w := by
  rw [run_slice_l w 22 a len cap f64_of kl l h0 h1, f64_size]
  simp [Result.andThen, sliced, cutF]
theorem slice_floats_lh (kl kh : IntKind) (l h : Int) (h0 : 0 ≤ l) (h1 : l ≤ h) (h2 : h ≤ cap) :
    (Instr.slice 22 (.slice a len cap) (some (.int kl l)) (some (.int kh h)) none).run Try.prog w = .ok (.slice (cutF a l.toNat cap) (h.toNat - l.toNat) (cap - l.toNat)) w := by
  rw [run_slice_lh w 22 a len cap f64_of kl kh l h h0 h1 h2, f64_size]
  simp [Result.andThen, sliced, cutF]
theorem slice_floats_h (kh : IntKind) (h : Int) (h0 : 0 ≤ h) (h2 : h ≤ cap) :
    (Instr.slice 22 (.slice a len cap) none (some (.int kh h)) none).run Try.prog w = .ok (.slice a h.toNat cap) w := by
  rw [run_slice_h w 22 a len cap f64_of kh h h0 h2, f64_size]
  have := cutF_zero a cap
  unfold cutF at this
  simp [Result.andThen, sliced, this]
end
end Go.Proofs.Ytoneofdihknnoab
