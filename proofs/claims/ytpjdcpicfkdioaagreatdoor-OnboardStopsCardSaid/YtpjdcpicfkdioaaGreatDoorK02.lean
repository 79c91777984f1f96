/- Texts in one: Rows2 Topo SpanPlain. -/
import Derived.Test.YtpjdcpicfkdioaaGreatDoorK01
import Derived.Maps.AppendAt
/- Rows of values of several cells each, wherever they lie; such rows in memory of the call's own. -/
set_option linter.unusedSimpArgs false
set_option linter.unusedVariables false
namespace Go.Proofs.YtpjdcpicfkdioaaGreatDoor
open Go.RowKit

/-- How a value of α lies in k cells. -/
structure Laid (α : Type) where
  k : Nat
  enc : α → List Value
  len : ∀ x, (enc x).length = k
  one : ∀ x u, u ∈ enc x → u.oneCell' = true
  pos : 0 < k
section
variable {α : Type} (E : Laid α)
def Laid.flat (xs : List α) : List Value := xs.flatMap E.enc
theorem Laid.flat_nil : E.flat [] = [] := rfl
theorem Laid.flat_cons (x : α) (xs : List α) : E.flat (x :: xs) = E.enc x ++ E.flat xs := rfl
theorem Laid.flat_append (xs ys : List α) : E.flat (xs ++ ys) = E.flat xs ++ E.flat ys := by simp [Laid.flat]
theorem Laid.flat_one (x : α) : E.flat [x] = E.enc x := by simp [Laid.flat]
theorem Laid.flat_length (xs : List α) : (E.flat xs).length = xs.length * E.k := by
  induction xs with
  | nil => simp [Laid.flat]
  | cons x xs ih => rw [E.flat_cons, List.length_append, E.len, ih, List.length_cons, Nat.add_mul]; omega
theorem Laid.flat_drop (xs : List α) (i : Nat) : (E.flat xs).drop (i * E.k) = E.flat (xs.drop i) := by
  induction xs generalizing i with
  | nil => simp [Laid.flat]
  | cons x xs ih =>
    cases i with
    | zero => simp
    | succ i =>
      rw [E.flat_cons, List.drop_succ_cons, ← ih i, show (i + 1) * E.k = (E.enc x).length + i * E.k by rw [E.len, Nat.add_mul]; omega, List.drop_append]
      simp
theorem Laid.flat_take (xs : List α) (i : Nat) : (E.flat xs).take (i * E.k) = E.flat (xs.take i) := by
  induction xs generalizing i with
  | nil => simp [Laid.flat]
  | cons x xs ih =>
    cases i with
    | zero => simp [Laid.flat]
    | succ i =>
      rw [E.flat_cons, List.take_succ_cons, E.flat_cons, ← ih i, show (i + 1) * E.k = (E.enc x).length + i * E.k by rw [E.len, Nat.add_mul]; omega, List.take_append, List.take_of_length_le (by omega)]
      simp
theorem Laid.flat_at {xs : List α} {i : Nat} {x : α} (h : xs[i]? = some x) (j : Nat) (hj : j < E.k) : (E.flat xs)[i * E.k + j]? = (E.enc x)[j]? := by
  obtain ⟨hi, rfl⟩ := List.getElem?_eq_some_iff.1 h
  have : (E.flat xs)[i * E.k + j]? = ((E.flat xs).drop (i * E.k))[j]? := by rw [List.getElem?_drop]
  rw [this, E.flat_drop, List.drop_eq_getElem_cons hi, E.flat_cons, List.getElem?_append_left (by rw [E.len]; exact hj)]
theorem Laid.flat_ones (xs : List α) : ∀ u ∈ E.flat xs, u.oneCell' = true := by
  intro u hu
  unfold Laid.flat at hu
  rw [List.mem_flatMap] at hu
  obtain ⟨x, _, hu⟩ := hu
  exact E.one x u hu
/-- At A lie these. -/
def RowsAt (w : World) (A : Option Addr) (xs : List α) : Prop := Row w A (E.flat xs)
variable {E}
section
variable {w w' : World} {A : Option Addr} {xs : List α}
theorem RowsAt.below (h : RowsAt E w A xs) (hb : Below w.heap.size w w') : RowsAt E w' A xs := Row.below h hb
theorem RowsAt.alloc (h : RowsAt E w A xs) (o : Obj) : RowsAt E (w.alloc o) A xs := Row.alloc h o
theorem RowsAt.nil (w : World) (A : Option Addr) : RowsAt E w A [] := Row.nil w A
theorem RowsAt.get (h : RowsAt E w A xs) {i : Nat} {x : α} (hx : xs[i]? = some x) : ∃ b off, A = some ⟨b, off, none⟩ ∧ b < w.heap.size ∧ ∀ j u, (E.enc x)[j]? = some u → w.cell? ⟨b, off + i * E.k + j, none⟩ = some u := by
  have hi := (List.getElem?_eq_some_iff.1 hx).1
  have hlen : 0 < (E.flat xs).length := by
    rw [E.flat_length]
    exact Nat.mul_pos (by omega) E.pos
  obtain ⟨b, off, e, hb, hc⟩ := h hlen
  refine ⟨b, off, e, hb, fun j u hu => ?_⟩
  have hj : j < E.k := by
    rcases Nat.lt_or_ge j E.k with g | g
    · exact g
    · rw [List.getElem?_eq_none (by rw [E.len]; exact g)] at hu; cases hu
  rw [Nat.add_assoc]
  exact hc _ u (by rw [E.flat_at hx j hj]; exact hu)
/-- Some of them, from i on. -/
theorem RowsAt.take {b off : Nat} (h : RowsAt E w (some ⟨b, off, none⟩) xs) (i : Nat) : RowsAt E w (some ⟨b, off, none⟩) (xs.take i) := fun h0 => by
  unfold RowsAt at h
  rw [← E.flat_take] at h0
  have hl : 0 < (E.flat xs).length := by simp at h0; omega
  obtain ⟨b', off', e, hb, hc⟩ := h hl
  refine ⟨b', off', e, hb, fun j u hu => hc j u ?_⟩
  rw [← E.flat_take, List.getElem?_take] at hu
  split at hu
  · exact hu
  · cases hu
end
/-- Such a row in memory of the call's own. -/
def OwnRows (E : Laid α) (t : TypeId) (w : World) (base : Nat) (A : Option Addr) (c : Nat) (xs : List α) : Prop := w.ownsRow base t E.k (.slice A xs.length c) xs.length (E.flat xs)
section
variable {t : TypeId} {w w' : World} {base : Nat} {A : Option Addr} {c : Nat} {xs : List α}
theorem OwnRows.nil (w : World) (base : Nat) : OwnRows E t w base none 0 [] := World.ownsRow_nil w base _ _
theorem OwnRows.off {R : Option Nat} (h : OwnRows E t w base A c xs) (hg : w.grownBy w' R) (hR : ∀ g, A.map (·.block) = some g → R ≠ some g) : OwnRows E t w' base A c xs := by
  refine ⟨h.1, ?_⟩
  rcases h.2 with h' | ⟨g, cap, cur, e, h1, h2, h3⟩
  · exact .inl h'
  · have hlt : g < w.heap.size := by
      rcases Nat.lt_or_ge g w.heap.size with h | h
      · exact h
      · rw [Array.getElem?_eq_none h] at h2; cases h2
    have hA : A.map (·.block) = some g := by
      simp only [Value.slice.injEq] at e
      rw [e.1]; rfl
    exact .inr ⟨g, cap, cur, e, h1, (hg.block g hlt (fun e => hR g hA e.symm)).trans h2, h3⟩
theorem OwnRows.below (h : OwnRows E t w base A c xs) (hb : Below w.heap.size w w') : OwnRows E t w' base A c xs := h.off (R := none) ⟨hb.os, hb.tape, hb.output, hb.size, fun k hk _ => hb.block k hk⟩ (fun g _ e => by cases e)
theorem OwnRows.alloc (h : OwnRows E t w base A c xs) (o : Obj) : OwnRows E t (w.alloc o) base A c xs := h.below ((Below.refl _ _).alloc (Nat.le_refl _) o)
theorem OwnRows.mono {base' : Nat} (h : OwnRows E t w base A c xs) (hb : base' ≤ base) : OwnRows E t w base' A c xs := by
  refine ⟨h.1, ?_⟩
  rcases h.2 with h' | ⟨g, cap, cur, e, h1, h2⟩
  · exact .inl h'
  · exact .inr ⟨g, cap, cur, e, by omega, h2⟩
theorem OwnRows.blk (h : OwnRows E t w base A c xs) (h0 : A ≠ none) : ∃ g cur, A = some ⟨g, 0, none⟩ ∧ base ≤ g ∧ Blk w g t cur ∧ cur.size = c * E.k ∧ xs.length ≤ c ∧ c ≤ maxLen ∧ cur.toList.take (xs.length * E.k) = E.flat xs := by
  rcases h.2 with ⟨e, _⟩ | ⟨g, cap, cur, e, h1, h2, h3, h4, h5, h6⟩
  · simp only [Value.slice.injEq] at e
    exact absurd e.1 h0
  · simp only [Value.slice.injEq] at e
    obtain ⟨rfl, _, rfl⟩ := e
    exact ⟨g, cur, rfl, h1, h2, h5, h3, h4, h6⟩
theorem OwnRows.some_ (h : OwnRows E t w base A c xs) (h0 : 0 < xs.length) : A ≠ none := by
  rintro rfl
  rcases h.2 with ⟨e, h1⟩ | ⟨g, cap, cur, e, _⟩
  · omega
  · simp only [Value.slice.injEq] at e
    cases e.1
theorem OwnRows.rows (h : OwnRows E t w base A c xs) : RowsAt E w A xs := fun h0 => by
  have hl : 0 < xs.length := by
    rw [E.flat_length] at h0
    exact Nat.pos_of_mul_pos_right h0
  obtain ⟨g, cur, rfl, h1, h2, h3, h4, h5, h6⟩ := h.blk (h.some_ hl)
  refine ⟨g, 0, rfl, h2.lt, fun j u hu => ?_⟩
  rw [Nat.zero_add, h2.cell, ← Array.getElem?_toList]
  have hj : j < xs.length * E.k := by
    rw [← E.flat_length]
    rcases Nat.lt_or_ge j (E.flat xs).length with g | g
    · exact g
    · rw [List.getElem?_eq_none g] at hu; cases hu
  rw [← List.getElem?_take_of_lt hj, h6]
  exact hu
theorem OwnRows.row_ge (h : OwnRows E t w base A c xs) : ∀ g, A.map (·.block) = some g → base ≤ g ∧ g < w.heap.size := by
  intro g hg
  have hA : A ≠ none := by rintro rfl; cases hg
  obtain ⟨g', cur, rfl, h1, h2, _⟩ := h.blk hA
  simp at hg
  subst hg
  exact ⟨h1, h2.lt⟩
theorem OwnRows.cap (h : OwnRows E t w base A c xs) : xs.length ≤ c ∧ c ≤ maxLen := by
  rcases h.2 with ⟨e, h0⟩ | ⟨g, cap, cur, e, _, _, h1, h2, _⟩
  · simp only [Value.slice.injEq] at e
    obtain ⟨_, _, rfl⟩ := e
    exact ⟨by omega, Nat.zero_le _⟩
  · simp only [Value.slice.injEq] at e
    obtain ⟨rfl, _, rfl⟩ := e
    exact ⟨h1, h2⟩
theorem OwnRows.far (h : OwnRows E t w base A c xs) {g : Nat} (hlt : g < base) (hk : ∀ k, k ≠ g → w'.heap[k]? = w.heap[k]?) : OwnRows E t w' base A c xs := by
  refine ⟨h.1, ?_⟩
  rcases h.2 with h' | ⟨k, cap, cur, e, h1, h2, h3⟩
  · exact .inl h'
  · exact .inr ⟨k, cap, cur, e, h1, (hk k (by omega)).trans h2, h3⟩
end
/-- What a program's table says of rows of such values. -/
structure RowType (P : Program) (E : Laid α) (ts t : TypeId) (bytes : Nat) where
  under : P.underlying ts = some (.slice t)
  info : ∃ i z, P.info? t = some i ∧ i.zero = some z ∧ i.size = E.k ∧ i.bytes = bytes ∧ z.cells.size = E.k
section
variable {P : Program} {ts t : TypeId} {bytes : Nat}
theorem wp_app_rows (T : RowType P E ts t bytes) {w : World} {o : Oper} {a : Act} {K : Act → World → Prop} {Q : Exit → Act → World → Prop} (s x : Operand)
    (ho : o.op = .call { callee := .builtin .append, args := #[s, x], argTypes := #[ts, ts] })
    (base : Nat) (A1 : Option Addr) (c1 : Nat) (xs : List α) (n1 : Nat) (hs : a.eval s = .slice A1 n1 c1) (hn1 : xs.length = n1) (hown : OwnRows E t w base A1 c1 xs)
    (A : Option Addr) (c : Nat) (ys : List α) (n : Nat) (hx : a.eval x = .slice A n c) (hn : ys.length = n) (hr : RowsAt E w A ys) (hlen : n1 + n ≤ 65536) (hby : bytes ≤ 4096) (hbase : base ≤ w.heap.size)
    (h : ∀ A2 c2 W, OwnRows E t W base A2 c2 (xs ++ ys) → w.grownBy W (A1.map (·.block)) → (A2.map (·.block) = A1.map (·.block) ∨ A2.map (·.block) = some w.heap.size) → K (a.put o.dst (.slice A2 (n1 + n) c2)) W) : o.wp P a w K Q := by
  subst hn1
  subst hn
  obtain ⟨i0, z, hi0, hz0, hz1, hz2, hz3⟩ := T.info
  have hrd : Reads w w.heap.size E.k A ys.length (E.flat ys) := ⟨E.flat_length ys, fun h0 => by
    obtain ⟨b, off, e, hb, hc⟩ := hr (by rw [E.flat_length]; exact Nat.mul_pos h0 E.pos)
    refine ⟨⟨b, off, none⟩, e, hb, fun j u hu => ?_⟩
    rw [Addr.add_lit]
    exact hc j u hu⟩
  have hbb : (xs.length + ys.length) * bytes ≤ 140737488355328 := by
    have := Nat.mul_le_mul hlen hby
    omega
  refine wp_append_any w s x ts ho base t i0 z E.k bytes T.under hi0 hz0 hz1 hz2 hz3 E.pos _ _ _ hs hown w.heap.size A ys.length c (E.flat ys) hx hrd (E.flat_ones ys) (by simp only [maxLen]; omega) hbb hbase ?_
  intro v' W h1 h2 h3
  have hob : (Value.slice A1 xs.length c1).ownBlock = A1.map (·.block) := by cases A1 <;> rfl
  rw [hob] at h2 h3
  have h4 : ∃ A2 c2, v' = .slice A2 (xs.length + ys.length) c2 := by
    rcases h1.2 with ⟨e, h0⟩ | ⟨g, cap, _, e, _⟩
    · exact ⟨none, 0, by rw [e, h0]⟩
    · exact ⟨_, _, e⟩
  obtain ⟨A2, c2, rfl⟩ := h4
  have hob2 : (Value.slice A2 (xs.length + ys.length) c2).ownBlock = A2.map (·.block) := by cases A2 <;> rfl
  rw [hob2] at h3
  refine h A2 c2 W ?_ h2 h3
  unfold OwnRows
  rw [List.length_append, E.flat_append]
  exact h1
theorem wpList_app_rows (T : RowType P E ts t bytes) {w : World} {ops : Array Oper} {rest : List Oper} {o : Oper} {a : Act} {Q : Exit → Act → World → Prop} (hgd : o.guard = none) (s x : Operand)
    (ho : o.op = .call { callee := .builtin .append, args := #[s, x], argTypes := #[ts, ts] })
    (base : Nat) (A1 : Option Addr) (c1 : Nat) (xs : List α) (n1 : Nat) (hs : a.eval s = .slice A1 n1 c1) (hn1 : xs.length = n1) (hown : OwnRows E t w base A1 c1 xs)
    (A : Option Addr) (c : Nat) (ys : List α) (n : Nat) (hx : a.eval x = .slice A n c) (hn : ys.length = n) (hr : RowsAt E w A ys) (hlen : n1 + n ≤ 65536) (hby : bytes ≤ 4096) (hbase : base ≤ w.heap.size)
    (h : ∀ A2 c2 W, OwnRows E t W base A2 c2 (xs ++ ys) → w.grownBy W (A1.map (·.block)) → (A2.map (·.block) = A1.map (·.block) ∨ A2.map (·.block) = some w.heap.size) → wpList P ops Q rest (a.put o.dst (.slice A2 (n1 + n) c2)) W) : wpList P ops Q (o :: rest) a w :=
  wpList_plain hgd fun _ hK => wp_app_rows T s x ho base A1 c1 xs n1 hs hn1 hown A c ys n hx hn hr hlen hby hbase fun A2 c2 W h1 h2 h3 => hK _ _ (h A2 c2 W h1 h2 h3)
end
end
end Go.Proofs.YtpjdcpicfkdioaaGreatDoor
/- A track in plain Lean, and how it lies in memory. -/
set_option linter.unusedSimpArgs false
set_option linter.unusedVariables false
namespace Go.Proofs.YtpjdcpicfkdioaaGreatDoor
open Go.RowKit

structure St where
  edge : Int
  rev : Bool
deriving DecidableEq
structure En where
  edge : Int
  at_ : Int
deriving DecidableEq
structure Jt where
  a : En
  b : En
deriving DecidableEq
structure Bl where
  id : Int
  edge : Int
  at_ : Int
structure Rt where
  id : Int
  path : List St
  gap : Int
  timer : Int
structure Tp where
  edges : List Int
  joints : List Jt
  bals : List Bl
  routes : List Rt
structure Sc where
  to_ : Int
  timer : Int
structure Ps where
  edge : Int
  at_ : Int
  rev : Bool
structure Ma where
  ref : Int
  rev : Bool
  path : List St
  sects : List Sc
  gap : Int
structure Sp where
  edge : Int
  lo : Int
  hi : Int
def encI : Laid Int := ⟨1, fun n => [.int .i64 n], fun _ => rfl, fun _ u hu => by simp at hu; subst hu; rfl, by decide⟩
def encSt : Laid St := ⟨2, fun s => [.int .i64 s.edge, .bool s.rev], fun _ => rfl, fun _ u hu => by simp at hu; rcases hu with rfl | rfl <;> rfl, by decide⟩
def encJt : Laid Jt := ⟨4, fun j => [.int .i64 j.a.edge, .int .i64 j.a.at_, .int .i64 j.b.edge, .int .i64 j.b.at_], fun _ => rfl, fun _ u hu => by simp at hu; rcases hu with rfl | rfl | rfl | rfl <;> rfl, by decide⟩
def encBl : Laid Bl := ⟨3, fun b => [.int .i64 b.id, .int .i64 b.edge, .int .i64 b.at_], fun _ => rfl, fun _ u hu => by simp at hu; rcases hu with rfl | rfl | rfl <;> rfl, by decide⟩
def encSc : Laid Sc := ⟨2, fun s => [.int .i64 s.to_, .int .i64 s.timer], fun _ => rfl, fun _ u hu => by simp at hu; rcases hu with rfl | rfl <;> rfl, by decide⟩
def encSp : Laid Sp := ⟨3, fun s => [.int .i64 s.edge, .int .i64 s.lo, .int .i64 s.hi], fun _ => rfl, fun _ u hu => by simp at hu; rcases hu with rfl | rfl | rfl <;> rfl, by decide⟩
/-- A route whose way is a slice at this place. -/
def encRt : Laid (Rt × Option Addr × Nat) := ⟨4, fun p => [.int .i64 p.1.id, .slice p.2.1 p.1.path.length p.2.2, .int .i64 p.1.gap, .int .i64 p.1.timer], fun _ => rfl, fun _ u hu => by simp at hu; rcases hu with rfl | rfl | rfl | rfl <;> rfl, by decide⟩
section
variable {w : World} {A : Option Addr}
theorem RowsAt.int {xs : List Int} (h : RowsAt encI w A xs) {i : Nat} (hi : i < xs.length) : ∃ b off, A = some ⟨b, off, none⟩ ∧ b < w.heap.size ∧ w.cell? ⟨b, off + i, none⟩ = some (.int .i64 xs[i]!) := by
  obtain ⟨b, off, e, hb, hc⟩ := h.get (List.getElem?_eq_getElem hi)
  refine ⟨b, off, e, hb, ?_⟩
  have := hc 0 _ rfl
  rw [getElem!_pos xs i hi]
  simpa [encI] using this
theorem RowsAt.st {xs : List St} (h : RowsAt encSt w A xs) {i : Nat} {s : St} (hs : xs[i]? = some s) : ∃ b off, A = some ⟨b, off, none⟩ ∧ b < w.heap.size ∧ w.cell? ⟨b, off + i * 2, none⟩ = some (.int .i64 s.edge) ∧ w.cell? ⟨b, off + i * 2 + 1, none⟩ = some (.bool s.rev) := by
  obtain ⟨b, off, e, hb, hc⟩ := h.get hs
  exact ⟨b, off, e, hb, hc 0 _ rfl, hc 1 _ rfl⟩
theorem RowsAt.jt {xs : List Jt} (h : RowsAt encJt w A xs) {i : Nat} {j : Jt} (hs : xs[i]? = some j) : ∃ b off, A = some ⟨b, off, none⟩ ∧ b < w.heap.size ∧ w.cell? ⟨b, off + i * 4, none⟩ = some (.int .i64 j.a.edge) ∧ w.cell? ⟨b, off + i * 4 + 1, none⟩ = some (.int .i64 j.a.at_) ∧ w.cell? ⟨b, off + i * 4 + 2, none⟩ = some (.int .i64 j.b.edge) ∧ w.cell? ⟨b, off + i * 4 + 3, none⟩ = some (.int .i64 j.b.at_) := by
  obtain ⟨b, off, e, hb, hc⟩ := h.get hs
  exact ⟨b, off, e, hb, hc 0 _ rfl, hc 1 _ rfl, hc 2 _ rfl, hc 3 _ rfl⟩
theorem RowsAt.bl {xs : List Bl} (h : RowsAt encBl w A xs) {i : Nat} {j : Bl} (hs : xs[i]? = some j) : ∃ b off, A = some ⟨b, off, none⟩ ∧ b < w.heap.size ∧ w.cell? ⟨b, off + i * 3, none⟩ = some (.int .i64 j.id) ∧ w.cell? ⟨b, off + i * 3 + 1, none⟩ = some (.int .i64 j.edge) ∧ w.cell? ⟨b, off + i * 3 + 2, none⟩ = some (.int .i64 j.at_) := by
  obtain ⟨b, off, e, hb, hc⟩ := h.get hs
  exact ⟨b, off, e, hb, hc 0 _ rfl, hc 1 _ rfl, hc 2 _ rfl⟩
theorem RowsAt.sc {xs : List Sc} (h : RowsAt encSc w A xs) {i : Nat} {s : Sc} (hs : xs[i]? = some s) : ∃ b off, A = some ⟨b, off, none⟩ ∧ b < w.heap.size ∧ w.cell? ⟨b, off + i * 2, none⟩ = some (.int .i64 s.to_) ∧ w.cell? ⟨b, off + i * 2 + 1, none⟩ = some (.int .i64 s.timer) := by
  obtain ⟨b, off, e, hb, hc⟩ := h.get hs
  exact ⟨b, off, e, hb, hc 0 _ rfl, hc 1 _ rfl⟩
theorem RowsAt.rt {xs : List (Rt × Option Addr × Nat)} (h : RowsAt encRt w A xs) {i : Nat} {p : Rt × Option Addr × Nat} (hs : xs[i]? = some p) : ∃ b off, A = some ⟨b, off, none⟩ ∧ b < w.heap.size ∧ w.cell? ⟨b, off + i * 4, none⟩ = some (.int .i64 p.1.id) ∧ w.cell? ⟨b, off + i * 4 + 1, none⟩ = some (.slice p.2.1 p.1.path.length p.2.2) ∧ w.cell? ⟨b, off + i * 4 + 2, none⟩ = some (.int .i64 p.1.gap) ∧ w.cell? ⟨b, off + i * 4 + 3, none⟩ = some (.int .i64 p.1.timer) := by
  obtain ⟨b, off, e, hb, hc⟩ := h.get hs
  exact ⟨b, off, e, hb, hc 0 _ rfl, hc 1 _ rfl, hc 2 _ rfl, hc 3 _ rfl⟩
end
/-- At these places lies a track. -/
structure TpAt (w : World) (t : Tp) (Ae Aj Ab Ar : Option Addr) (rs : List (Rt × Option Addr × Nat)) : Prop where
  edges : RowsAt encI w Ae t.edges
  joints : RowsAt encJt w Aj t.joints
  bals : RowsAt encBl w Ab t.bals
  routes : RowsAt encRt w Ar rs
  is : rs.map (·.1) = t.routes
  paths : ∀ p ∈ rs, RowsAt encSt w p.2.1 p.1.path
theorem TpAt.below {w w' : World} {t : Tp} {Ae Aj Ab Ar : Option Addr} {rs : List (Rt × Option Addr × Nat)} (h : TpAt w t Ae Aj Ab Ar rs) (hb : Below w.heap.size w w') : TpAt w' t Ae Aj Ab Ar rs :=
  ⟨h.edges.below hb, h.joints.below hb, h.bals.below hb, h.routes.below hb, h.is, fun p hp => (h.paths p hp).below hb⟩
/-- The four cells of a track: slices with these lengths and room. -/
structure TpV where
  Ae : Option Addr
  ce : Nat
  Aj : Option Addr
  cj : Nat
  Ab : Option Addr
  cb : Nat
  Ar : Option Addr
  cr : Nat
  rs : List (Rt × Option Addr × Nat)
def TpV.cells (v : TpV) (t : Tp) : Array Value := #[.slice v.Ae t.edges.length v.ce, .slice v.Aj t.joints.length v.cj, .slice v.Ab t.bals.length v.cb, .slice v.Ar t.routes.length v.cr]
def thereT (t : Tp) (e : Int) : Bool := decide (0 ≤ e) && decide (e < t.edges.length)
def entersT (s : St) : En := ⟨s.edge, if s.rev then 1 else 0⟩
def leavesT (s : St) : En := entersT ⟨s.edge, !s.rev⟩
def joinsT (js : List Jt) (a b : En) : Bool := decide (⟨a, b⟩ ∈ js) || decide (⟨b, a⟩ ∈ js)
def mayT (t : Tp) (a b : St) : Bool := joinsT t.joints (leavesT a) (entersT b)
def wayT (t : Tp) : List St → Bool
  | a :: b :: p => mayT t a b && wayT t (b :: p)
  | _ => true
def edgeT (t : Tp) (e : Int) : Int := t.edges[e.toNat]!
/-- How long a way is, as the machine adds; what is wrong with it. -/
def sumT (t : Tp) (p : List St) : Int := p.foldl (fun n s => wrap64 (n + edgeT t s.edge)) 0
def lenE (t : Tp) (p : List St) : Int := if p.length = 0 ∨ 40 < p.length then 1 else if p.all fun s => thereT t s.edge then (if wayT t p then 0 else 141) else 1
def lenT (t : Tp) (p : List St) : Int := if lenE t p = 0 then sumT t p else 0
def balT (t : Tp) (id : Int) : Option Bl := t.bals.find? fun b => decide (b.id = id)
def routeT (t : Tp) (id : Int) : Option Rt := t.routes.find? fun r => decide (r.id = id)
end Go.Proofs.YtpjdcpicfkdioaaGreatDoor
/- Plain: pieces of track, their normal form, how many decimetres a way goes over. -/
set_option linter.unusedSimpArgs false
set_option linter.unusedVariables false
namespace Go.Proofs.YtpjdcpicfkdioaaGreatDoor

/-- Has a piece any decimetres? -/
def someT (s : Sp) : Bool := decide (0 ≤ s.edge) && decide (0 ≤ s.lo) && decide (s.lo < s.hi) && decide (s.hi ≤ 1000000)
def keyLe (a b : Sp) : Prop := a.edge < b.edge ∨ a.edge = b.edge ∧ a.lo ≤ b.lo
/-- Pieces that follow in order, joined where they touch. -/
def joinT : List Sp → List Sp → List Sp
  | out, [] => out
  | [], s :: l => joinT [s] l
  | o :: out, s :: l => if o.edge = s.edge ∧ s.lo ≤ o.hi then joinT (⟨o.edge, o.lo, max o.hi s.hi⟩ :: out) l else joinT (s :: o :: out) l
def sumSp (l : List Sp) : Int := (l.map fun s => s.hi - s.lo).sum
/-- Pieces on different edges are not joined. -/
theorem joinT_apart : ∀ (l out : List Sp), ((l.map (·.edge)) ++ out.map (·.edge)).Nodup → joinT out l = l.reverse ++ out
  | [], out, _ => by simp [joinT]
  | s :: l, [], h => by
    have hp : ((l.map (·.edge)) ++ [s].map (·.edge)).Perm (((s :: l).map (·.edge)) ++ ([] : List Sp).map (·.edge)) := by
      simp only [List.map_cons, List.map_nil, List.append_nil]
      exact (List.perm_append_comm (l₁ := l.map (·.edge)) (l₂ := [s.edge]))
    rw [joinT, joinT_apart l [s] (hp.nodup_iff.2 h)]
    simp
  | s :: l, o :: out, h => by
    have hne : ¬ (o.edge = s.edge ∧ s.lo ≤ o.hi) := by
      rintro ⟨e, _⟩
      simp [e] at h
    rw [joinT, if_neg hne, joinT_apart l (s :: o :: out) ?_]
    · simp
    · have : ((l.map (·.edge)) ++ (s :: o :: out).map (·.edge)).Perm (((s :: l).map (·.edge)) ++ (o :: out).map (·.edge)) := by
        simp only [List.map_cons, List.cons_append]
        exact List.perm_middle
      exact this.nodup_iff.2 h
/-- What a step's piece has, from 'at' on. -/
def pieceL (fr to_ at_ n : Int) : Int := min (to_ - at_) n - max (fr - at_) 0
theorem pieces_sum (fr to_ : Int) (h : fr ≤ to_) : ∀ (ns : List Int) (at_ : Int), (∀ n ∈ ns, 1 ≤ n) → ((ns.foldl (fun (p : Int × Int) n => (p.1 + n, p.2 + max 0 (pieceL fr to_ p.1 n))) (at_, 0)).2) = max 0 (min to_ (at_ + ns.sum) - max fr at_) := by
  have gen : ∀ (ns : List Int) (at_ acc : Int), (∀ n ∈ ns, 1 ≤ n) → ((ns.foldl (fun (p : Int × Int) n => (p.1 + n, p.2 + max 0 (pieceL fr to_ p.1 n))) (at_, acc)).2) = acc + max 0 (min to_ (at_ + ns.sum) - max fr at_) := by
    intro ns
    induction ns with
    | nil =>
      intro at_ acc _
      simp only [List.foldl_nil, List.sum_nil, Int.add_zero]
      omega
    | cons n ns ih =>
      intro at_ acc hn
      have h1 := hn n (by simp)
      rw [List.foldl_cons, ih _ _ (fun m hm => hn m (by simp [hm])), List.sum_cons]
      have hs : 0 ≤ ns.sum := by
        clear ih
        have : ∀ m ∈ ns, 1 ≤ m := fun m hm => hn m (by simp [hm])
        clear hn
        induction ns with
        | nil => simp
        | cons a as ih2 => rw [List.sum_cons]; have := ih2 (fun m hm => this m (by simp [hm])); have := this; have h3 := ‹∀ m ∈ a :: as, 1 ≤ m› a (by simp); omega
      unfold pieceL
      omega
  intro ns at_ hn
  rw [gen ns at_ 0 hn, Int.zero_add]
end Go.Proofs.YtpjdcpicfkdioaaGreatDoor
