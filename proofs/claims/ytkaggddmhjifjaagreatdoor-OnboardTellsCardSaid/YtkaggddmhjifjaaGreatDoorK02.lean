/- Texts in one: Rows2 Topo SpanPlain SitePlain. -/
import Derived.Test.YtkaggddmhjifjaaGreatDoorK01
import Derived.Maps.AppendAt
set_option linter.unusedSimpArgs false
set_option linter.unusedVariables false
namespace Go.Proofs.YtkaggddmhjifjaaGreatDoor
open Go.RowKit
structure Laid (α : Type) where
 k : Nat
 enc : α → List Value
 len : ∀ x, (enc x).length = k
 one : ∀ x u, u ∈ enc x → u.oneCell' = true
 pos : 0 < k
section
variable {α : Type} (E : Laid α)
def Laid.flat (xs : List α) : List Value := xs.flatMap E.enc
theorem Laid.flat_cons (x : α) (xs : List α) : E.flat (x :: xs) = E.enc x ++ E.flat xs := rfl
theorem Laid.flat_append (xs ys : List α) : E.flat (xs ++ ys) = E.flat xs ++ E.flat ys := by simp [Laid.flat]
theorem Laid.flat_length (xs : List α) : (E.flat xs).length = xs.length * E.k := by
 induction xs with
 | nil => simp [Laid.flat]
 | cons x xs ih => rw [E.flat_cons, List.length_append, E.len, ih, List.length_cons, Nat.add_mul]; omega
theorem Laid.flat_drop (xs : List α) (i : Nat) : (E.flat xs).drop (i * E.k) = E.flat (xs.drop i) := by
 induction xs generalizing i with
 | nil => simp [Laid.flat]
 | cons x xs ih =>
  cases i with
  | zero => simp
  | succ i =>
   rw [E.flat_cons, List.drop_succ_cons, ← ih i, show (i + 1) * E.k = (E.enc x).length + i * E.k by rw [E.len, Nat.add_mul]; omega, List.drop_append]
   simp
theorem Laid.flat_take (xs : List α) (i : Nat) : (E.flat xs).take (i * E.k) = E.flat (xs.take i) := by
 induction xs generalizing i with
 | nil => simp [Laid.flat]
 | cons x xs ih =>
  cases i with
  | zero => simp [Laid.flat]
  | succ i =>
   rw [E.flat_cons, List.take_succ_cons, E.flat_cons, ← ih i, show (i + 1) * E.k = (E.enc x).length + i * E.k by rw [E.len, Nat.add_mul]; omega, List.take_append, List.take_of_length_le (by omega)]
   simp
theorem Laid.flat_at {xs : List α} {i : Nat} {x : α} (h : xs[i]? = some x) (j : Nat) (hj : j < E.k) : (E.flat xs)[i * E.k + j]? = (E.enc x)[j]? := by
 obtain ⟨hi, rfl⟩ := List.getElem?_eq_some_iff.1 h
 have : (E.flat xs)[i * E.k + j]? = ((E.flat xs).drop (i * E.k))[j]? := by rw [List.getElem?_drop]
 rw [this, E.flat_drop, List.drop_eq_getElem_cons hi, E.flat_cons, List.getElem?_append_left (by rw [E.len]; exact hj)]
theorem Laid.flat_ones (xs : List α) : ∀ u ∈ E.flat xs, u.oneCell' = true := by
 intro u hu
 unfold Laid.flat at hu
 rw [List.mem_flatMap] at hu
 obtain ⟨x, _, hu⟩ := hu
 exact E.one x u hu
def RowsAt (w : World) (A : Option Addr) (xs : List α) : Prop := Row w A (E.flat xs)
variable {E}
section
variable {w w' : World} {A : Option Addr} {xs : List α}
theorem RowsAt.below (h : RowsAt E w A xs) (hb : Below w.heap.size w w') : RowsAt E w' A xs := Row.below h hb
theorem RowsAt.alloc (h : RowsAt E w A xs) (o : Obj) : RowsAt E (w.alloc o) A xs := Row.alloc h o
theorem RowsAt.nil (w : World) (A : Option Addr) : RowsAt E w A [] := Row.nil w A
theorem RowsAt.get (h : RowsAt E w A xs) {i : Nat} {x : α} (hx : xs[i]? = some x) : ∃ b off, A = some ⟨b, off, none⟩ ∧ b < w.heap.size ∧ ∀ j u, (E.enc x)[j]? = some u → w.cell? ⟨b, off + i * E.k + j, none⟩ = some u := by
 have hi := (List.getElem?_eq_some_iff.1 hx).1
 have hlen : 0 < (E.flat xs).length := by
  rw [E.flat_length]
  exact Nat.mul_pos (by omega) E.pos
 obtain ⟨b, off, e, hb, hc⟩ := h hlen
 refine ⟨b, off, e, hb, fun j u hu => ?_⟩
 have hj : j < E.k := by
  rcases Nat.lt_or_ge j E.k with g | g
  ·
   exact g
  ·
   rw [List.getElem?_eq_none (by rw [E.len]; exact g)] at hu; cases hu
 rw [Nat.add_assoc]
 exact hc _ u (by rw [E.flat_at hx j hj]; exact hu)
theorem RowsAt.take {b off : Nat} (h : RowsAt E w (some ⟨b, off, none⟩) xs) (i : Nat) : RowsAt E w (some ⟨b, off, none⟩) (xs.take i) := fun h0 => by
 unfold RowsAt at h
 rw [← E.flat_take] at h0
 have hl : 0 < (E.flat xs).length := by simp at h0; omega
 obtain ⟨b', off', e, hb, hc⟩ := h hl
 refine ⟨b', off', e, hb, fun j u hu => hc j u ?_⟩
 rw [← E.flat_take, List.getElem?_take] at hu
 split at hu
 ·
  exact hu
 ·
  cases hu
end
def OwnRows (E : Laid α) (t : TypeId) (w : World) (base : Nat) (A : Option Addr) (c : Nat) (xs : List α) : Prop := w.ownsRow base t E.k (.slice A xs.length c) xs.length (E.flat xs)
section
variable {t : TypeId} {w w' : World} {base : Nat} {A : Option Addr} {c : Nat} {xs : List α}
theorem OwnRows.nil (w : World) (base : Nat) : OwnRows E t w base none 0 [] := World.ownsRow_nil w base _ _
theorem OwnRows.off {R : Option Nat} (h : OwnRows E t w base A c xs) (hg : w.grownBy w' R) (hR : ∀ g, A.map (·.block) = some g → R ≠ some g) : OwnRows E t w' base A c xs := by
 refine ⟨h.1, ?_⟩
 rcases h.2 with h' | ⟨g, cap, cur, e, h1, h2, h3⟩
 ·
  exact .inl h'
 ·
  have hlt : g < w.heap.size := by
   rcases Nat.lt_or_ge g w.heap.size with h | h
   ·
    exact h
   ·
    rw [Array.getElem?_eq_none h] at h2; cases h2
  have hA : A.map (·.block) = some g := by
   simp only [Value.slice.injEq] at e
   rw [e.1]; rfl
  exact .inr ⟨g, cap, cur, e, h1, (hg.block g hlt (fun e => hR g hA e.symm)).trans h2, h3⟩
theorem OwnRows.below (h : OwnRows E t w base A c xs) (hb : Below w.heap.size w w') : OwnRows E t w' base A c xs := h.off (R := none) ⟨hb.os, hb.tape, hb.output, hb.size, fun k hk _ => hb.block k hk⟩ (fun g _ e => by cases e)
theorem OwnRows.alloc (h : OwnRows E t w base A c xs) (o : Obj) : OwnRows E t (w.alloc o) base A c xs := h.below ((Below.refl _ _).alloc (Nat.le_refl _) o)
theorem OwnRows.mono {base' : Nat} (h : OwnRows E t w base A c xs) (hb : base' ≤ base) : OwnRows E t w base' A c xs := by
 refine ⟨h.1, ?_⟩
 rcases h.2 with h' | ⟨g, cap, cur, e, h1, h2⟩
 ·
  exact .inl h'
 ·
  exact .inr ⟨g, cap, cur, e, by omega, h2⟩
theorem OwnRows.blk (h : OwnRows E t w base A c xs) (h0 : A ≠ none) : ∃ g cur, A = some ⟨g, 0, none⟩ ∧ base ≤ g ∧ Blk w g t cur ∧ cur.size = c * E.k ∧ xs.length ≤ c ∧ c ≤ maxLen ∧ cur.toList.take (xs.length * E.k) = E.flat xs := by
 rcases h.2 with ⟨e, _⟩ | ⟨g, cap, cur, e, h1, h2, h3, h4, h5, h6⟩
 ·
  simp only [Value.slice.injEq] at e
  exact absurd e.1 h0
 ·
  simp only [Value.slice.injEq] at e
  obtain ⟨rfl, _, rfl⟩ := e
  exact ⟨g, cur, rfl, h1, h2, h5, h3, h4, h6⟩
theorem OwnRows.some_ (h : OwnRows E t w base A c xs) (h0 : 0 < xs.length) : A ≠ none := by
 rintro rfl
 rcases h.2 with ⟨e, h1⟩ | ⟨g, cap, cur, e, _⟩
 ·
  omega
 ·
  simp only [Value.slice.injEq] at e
  cases e.1
theorem OwnRows.rows (h : OwnRows E t w base A c xs) : RowsAt E w A xs := fun h0 => by
 have hl : 0 < xs.length := by
  rw [E.flat_length] at h0
  exact Nat.pos_of_mul_pos_right h0
 obtain ⟨g, cur, rfl, h1, h2, h3, h4, h5, h6⟩ := h.blk (h.some_ hl)
 refine ⟨g, 0, rfl, h2.lt, fun j u hu => ?_⟩
 rw [Nat.zero_add, h2.cell, ← Array.getElem?_toList]
 have hj : j < xs.length * E.k := by
  rw [← E.flat_length]
  rcases Nat.lt_or_ge j (E.flat xs).length with g | g
  ·
   exact g
  ·
   rw [List.getElem?_eq_none g] at hu; cases hu
 rw [← List.getElem?_take_of_lt hj, h6]
 exact hu
theorem OwnRows.row_ge (h : OwnRows E t w base A c xs) : ∀ g, A.map (·.block) = some g → base ≤ g ∧ g < w.heap.size := by
 intro g hg
 have hA : A ≠ none := by rintro rfl; cases hg
 obtain ⟨g', cur, rfl, h1, h2, _⟩ := h.blk hA
 simp at hg
 subst hg
 exact ⟨h1, h2.lt⟩
theorem OwnRows.cap (h : OwnRows E t w base A c xs) : xs.length ≤ c ∧ c ≤ maxLen := by
 rcases h.2 with ⟨e, h0⟩ | ⟨g, cap, cur, e, _, _, h1, h2, _⟩
 ·
  simp only [Value.slice.injEq] at e
  obtain ⟨_, _, rfl⟩ := e
  exact ⟨by omega, Nat.zero_le _⟩
 ·
  simp only [Value.slice.injEq] at e
  obtain ⟨rfl, _, rfl⟩ := e
  exact ⟨h1, h2⟩
theorem OwnRows.far (h : OwnRows E t w base A c xs) {g : Nat} (hlt : g < base) (hk : ∀ k, k ≠ g → w'.heap[k]? = w.heap[k]?) : OwnRows E t w' base A c xs := by
 refine ⟨h.1, ?_⟩
 rcases h.2 with h' | ⟨k, cap, cur, e, h1, h2, h3⟩
 ·
  exact .inl h'
 ·
  exact .inr ⟨k, cap, cur, e, h1, (hk k (by omega)).trans h2, h3⟩
end
structure RowType (P : Program) (E : Laid α) (ts t : TypeId) (bytes : Nat) where
 under : P.underlying ts = some (.slice t)
 info : ∃ i z, P.info? t = some i ∧ i.zero = some z ∧ i.size = E.k ∧ i.bytes = bytes ∧ z.cells.size = E.k
section
variable {P : Program} {ts t : TypeId} {bytes : Nat}
theorem wp_app_rows (T : RowType P E ts t bytes) {w : World} {o : Oper} {a : Act} {K : Act → World → Prop} {Q : Exit → Act → World → Prop} (s x : Operand)
  (ho : o.op = .call { callee := .builtin .append, args := #[s, x], argTypes := #[ts, ts] })
  (base : Nat) (A1 : Option Addr) (c1 : Nat) (xs : List α) (n1 : Nat) (hs : a.eval s = .slice A1 n1 c1) (hn1 : xs.length = n1) (hown : OwnRows E t w base A1 c1 xs)
  (A : Option Addr) (c : Nat) (ys : List α) (n : Nat) (hx : a.eval x = .slice A n c) (hn : ys.length = n) (hr : RowsAt E w A ys) (hlen : n1 + n ≤ 65536) (hby : bytes ≤ 4096) (hbase : base ≤ w.heap.size)
  (h : ∀ A2 c2 W, OwnRows E t W base A2 c2 (xs ++ ys) → w.grownBy W (A1.map (·.block)) → (A2.map (·.block) = A1.map (·.block) ∨ A2.map (·.block) = some w.heap.size) → K (a.put o.dst (.slice A2 (n1 + n) c2)) W) : o.wp P a w K Q := by
 subst hn1
 subst hn
 obtain ⟨i0, z, hi0, hz0, hz1, hz2, hz3⟩ := T.info
 have hrd : Reads w w.heap.size E.k A ys.length (E.flat ys) := ⟨E.flat_length ys, fun h0 => by
  obtain ⟨b, off, e, hb, hc⟩ := hr (by rw [E.flat_length]; exact Nat.mul_pos h0 E.pos)
  refine ⟨⟨b, off, none⟩, e, hb, fun j u hu => ?_⟩
  rw [Addr.add_lit]
  exact hc j u hu⟩
 have hbb : (xs.length + ys.length) * bytes ≤ 140737488355328 := by
  have := Nat.mul_le_mul hlen hby
  omega
 refine wp_append_any w s x ts ho base t i0 z E.k bytes T.under hi0 hz0 hz1 hz2 hz3 E.pos _ _ _ hs hown w.heap.size A ys.length c (E.flat ys) hx hrd (E.flat_ones ys) (by simp only [maxLen]; omega) hbb hbase ?_
 intro v' W h1 h2 h3
 have hob : (Value.slice A1 xs.length c1).ownBlock = A1.map (·.block) := by cases A1 <;> rfl
 rw [hob] at h2 h3
 have h4 : ∃ A2 c2, v' = .slice A2 (xs.length + ys.length) c2 := by
  rcases h1.2 with ⟨e, h0⟩ | ⟨g, cap, _, e, _⟩
  ·
   exact ⟨none, 0, by rw [e, h0]⟩
  ·
   exact ⟨_, _, e⟩
 obtain ⟨A2, c2, rfl⟩ := h4
 have hob2 : (Value.slice A2 (xs.length + ys.length) c2).ownBlock = A2.map (·.block) := by cases A2 <;> rfl
 rw [hob2] at h3
 refine h A2 c2 W ?_ h2 h3
 unfold OwnRows
 rw [List.length_append, E.flat_append]
 exact h1
theorem wpList_app_rows (T : RowType P E ts t bytes) {w : World} {ops : Array Oper} {rest : List Oper} {o : Oper} {a : Act} {Q : Exit → Act → World → Prop} (hgd : o.guard = none) (s x : Operand)
  (ho : o.op = .call { callee := .builtin .append, args := #[s, x], argTypes := #[ts, ts] })
  (base : Nat) (A1 : Option Addr) (c1 : Nat) (xs : List α) (n1 : Nat) (hs : a.eval s = .slice A1 n1 c1) (hn1 : xs.length = n1) (hown : OwnRows E t w base A1 c1 xs)
  (A : Option Addr) (c : Nat) (ys : List α) (n : Nat) (hx : a.eval x = .slice A n c) (hn : ys.length = n) (hr : RowsAt E w A ys) (hlen : n1 + n ≤ 65536) (hby : bytes ≤ 4096) (hbase : base ≤ w.heap.size)
  (h : ∀ A2 c2 W, OwnRows E t W base A2 c2 (xs ++ ys) → w.grownBy W (A1.map (·.block)) → (A2.map (·.block) = A1.map (·.block) ∨ A2.map (·.block) = some w.heap.size) → wpList P ops Q rest (a.put o.dst (.slice A2 (n1 + n) c2)) W) : wpList P ops Q (o :: rest) a w :=
 wpList_plain hgd fun _ hK => wp_app_rows T s x ho base A1 c1 xs n1 hs hn1 hown A c ys n hx hn hr hlen hby hbase fun A2 c2 W h1 h2 h3 => hK _ _ (h A2 c2 W h1 h2 h3)
end
end
end Go.Proofs.YtkaggddmhjifjaaGreatDoor
set_option linter.unusedSimpArgs false
set_option linter.unusedVariables false
namespace Go.Proofs.YtkaggddmhjifjaaGreatDoor
open Go.RowKit
structure St where
 edge : Int
 rev : Bool
deriving DecidableEq
structure En where
 edge : Int
 at_ : Int
deriving DecidableEq
structure Jt where
 a : En
 b : En
deriving DecidableEq
structure Bl where
 id : Int
 edge : Int
 at_ : Int
structure Rt where
 id : Int
 path : List St
 gap : Int
 timer : Int
structure Tp where
 edges : List Int
 joints : List Jt
 bals : List Bl
 routes : List Rt
structure Sc where
 to_ : Int
 timer : Int
structure Ps where
 edge : Int
 at_ : Int
 rev : Bool
structure Ma where
 ref : Int
 rev : Bool
 path : List St
 sects : List Sc
 gap : Int
structure Sp where
 edge : Int
 lo : Int
 hi : Int
def encI : Laid Int := ⟨1, fun n => [.int .i64 n], fun _ => rfl, fun _ u hu => by simp at hu; subst hu; rfl, by decide⟩
def encSt : Laid St := ⟨2, fun s => [.int .i64 s.edge, .bool s.rev], fun _ => rfl, fun _ u hu => by simp at hu; rcases hu with rfl | rfl <;> rfl, by decide⟩
def encJt : Laid Jt := ⟨4, fun j => [.int .i64 j.a.edge, .int .i64 j.a.at_, .int .i64 j.b.edge, .int .i64 j.b.at_], fun _ => rfl, fun _ u hu => by simp at hu; rcases hu with rfl | rfl | rfl | rfl <;> rfl, by decide⟩
def encBl : Laid Bl := ⟨3, fun b => [.int .i64 b.id, .int .i64 b.edge, .int .i64 b.at_], fun _ => rfl, fun _ u hu => by simp at hu; rcases hu with rfl | rfl | rfl <;> rfl, by decide⟩
def encSc : Laid Sc := ⟨2, fun s => [.int .i64 s.to_, .int .i64 s.timer], fun _ => rfl, fun _ u hu => by simp at hu; rcases hu with rfl | rfl <;> rfl, by decide⟩
def encSp : Laid Sp := ⟨3, fun s => [.int .i64 s.edge, .int .i64 s.lo, .int .i64 s.hi], fun _ => rfl, fun _ u hu => by simp at hu; rcases hu with rfl | rfl | rfl <;> rfl, by decide⟩
def encRt : Laid (Rt × Option Addr × Nat) := ⟨4, fun p => [.int .i64 p.1.id, .slice p.2.1 p.1.path.length p.2.2, .int .i64 p.1.gap, .int .i64 p.1.timer], fun _ => rfl, fun _ u hu => by simp at hu; rcases hu with rfl | rfl | rfl | rfl <;> rfl, by decide⟩
section
variable {w : World} {A : Option Addr}
theorem RowsAt.int {xs : List Int} (h : RowsAt encI w A xs) {i : Nat} (hi : i < xs.length) : ∃ b off, A = some ⟨b, off, none⟩ ∧ b < w.heap.size ∧ w.cell? ⟨b, off + i, none⟩ = some (.int .i64 xs[i]!) := by
 obtain ⟨b, off, e, hb, hc⟩ := h.get (List.getElem?_eq_getElem hi)
 refine ⟨b, off, e, hb, ?_⟩
 have := hc 0 _ rfl
 rw [getElem!_pos xs i hi]
 simpa [encI] using this
theorem RowsAt.st {xs : List St} (h : RowsAt encSt w A xs) {i : Nat} {s : St} (hs : xs[i]? = some s) : ∃ b off, A = some ⟨b, off, none⟩ ∧ b < w.heap.size ∧ w.cell? ⟨b, off + i * 2, none⟩ = some (.int .i64 s.edge) ∧ w.cell? ⟨b, off + i * 2 + 1, none⟩ = some (.bool s.rev) := by
 obtain ⟨b, off, e, hb, hc⟩ := h.get hs
 exact ⟨b, off, e, hb, hc 0 _ rfl, hc 1 _ rfl⟩
theorem RowsAt.jt {xs : List Jt} (h : RowsAt encJt w A xs) {i : Nat} {j : Jt} (hs : xs[i]? = some j) : ∃ b off, A = some ⟨b, off, none⟩ ∧ b < w.heap.size ∧ w.cell? ⟨b, off + i * 4, none⟩ = some (.int .i64 j.a.edge) ∧ w.cell? ⟨b, off + i * 4 + 1, none⟩ = some (.int .i64 j.a.at_) ∧ w.cell? ⟨b, off + i * 4 + 2, none⟩ = some (.int .i64 j.b.edge) ∧ w.cell? ⟨b, off + i * 4 + 3, none⟩ = some (.int .i64 j.b.at_) := by
 obtain ⟨b, off, e, hb, hc⟩ := h.get hs
 exact ⟨b, off, e, hb, hc 0 _ rfl, hc 1 _ rfl, hc 2 _ rfl, hc 3 _ rfl⟩
theorem RowsAt.bl {xs : List Bl} (h : RowsAt encBl w A xs) {i : Nat} {j : Bl} (hs : xs[i]? = some j) : ∃ b off, A = some ⟨b, off, none⟩ ∧ b < w.heap.size ∧ w.cell? ⟨b, off + i * 3, none⟩ = some (.int .i64 j.id) ∧ w.cell? ⟨b, off + i * 3 + 1, none⟩ = some (.int .i64 j.edge) ∧ w.cell? ⟨b, off + i * 3 + 2, none⟩ = some (.int .i64 j.at_) := by
 obtain ⟨b, off, e, hb, hc⟩ := h.get hs
 exact ⟨b, off, e, hb, hc 0 _ rfl, hc 1 _ rfl, hc 2 _ rfl⟩
theorem RowsAt.sc {xs : List Sc} (h : RowsAt encSc w A xs) {i : Nat} {s : Sc} (hs : xs[i]? = some s) : ∃ b off, A = some ⟨b, off, none⟩ ∧ b < w.heap.size ∧ w.cell? ⟨b, off + i * 2, none⟩ = some (.int .i64 s.to_) ∧ w.cell? ⟨b, off + i * 2 + 1, none⟩ = some (.int .i64 s.timer) := by
 obtain ⟨b, off, e, hb, hc⟩ := h.get hs
 exact ⟨b, off, e, hb, hc 0 _ rfl, hc 1 _ rfl⟩
theorem RowsAt.rt {xs : List (Rt × Option Addr × Nat)} (h : RowsAt encRt w A xs) {i : Nat} {p : Rt × Option Addr × Nat} (hs : xs[i]? = some p) : ∃ b off, A = some ⟨b, off, none⟩ ∧ b < w.heap.size ∧ w.cell? ⟨b, off + i * 4, none⟩ = some (.int .i64 p.1.id) ∧ w.cell? ⟨b, off + i * 4 + 1, none⟩ = some (.slice p.2.1 p.1.path.length p.2.2) ∧ w.cell? ⟨b, off + i * 4 + 2, none⟩ = some (.int .i64 p.1.gap) ∧ w.cell? ⟨b, off + i * 4 + 3, none⟩ = some (.int .i64 p.1.timer) := by
 obtain ⟨b, off, e, hb, hc⟩ := h.get hs
 exact ⟨b, off, e, hb, hc 0 _ rfl, hc 1 _ rfl, hc 2 _ rfl, hc 3 _ rfl⟩
end
structure TpAt (w : World) (t : Tp) (Ae Aj Ab Ar : Option Addr) (rs : List (Rt × Option Addr × Nat)) : Prop where
 edges : RowsAt encI w Ae t.edges
 joints : RowsAt encJt w Aj t.joints
 bals : RowsAt encBl w Ab t.bals
 routes : RowsAt encRt w Ar rs
 is : rs.map (·.1) = t.routes
 paths : ∀ p ∈ rs, RowsAt encSt w p.2.1 p.1.path
theorem TpAt.below {w w' : World} {t : Tp} {Ae Aj Ab Ar : Option Addr} {rs : List (Rt × Option Addr × Nat)} (h : TpAt w t Ae Aj Ab Ar rs) (hb : Below w.heap.size w w') : TpAt w' t Ae Aj Ab Ar rs :=
 ⟨h.edges.below hb, h.joints.below hb, h.bals.below hb, h.routes.below hb, h.is, fun p hp => (h.paths p hp).below hb⟩
structure TpV where
 Ae : Option Addr
 ce : Nat
 Aj : Option Addr
 cj : Nat
 Ab : Option Addr
 cb : Nat
 Ar : Option Addr
 cr : Nat
 rs : List (Rt × Option Addr × Nat)
def TpV.cells (v : TpV) (t : Tp) : Array Value := #[.slice v.Ae t.edges.length v.ce, .slice v.Aj t.joints.length v.cj, .slice v.Ab t.bals.length v.cb, .slice v.Ar t.routes.length v.cr]
def thereT (t : Tp) (e : Int) : Bool := decide (0 ≤ e) && decide (e < t.edges.length)
def entersT (s : St) : En := ⟨s.edge, if s.rev then 1 else 0⟩
def leavesT (s : St) : En := entersT ⟨s.edge, !s.rev⟩
def joinsT (js : List Jt) (a b : En) : Bool := decide (⟨a, b⟩ ∈ js) || decide (⟨b, a⟩ ∈ js)
def mayT (t : Tp) (a b : St) : Bool := joinsT t.joints (leavesT a) (entersT b)
def wayT (t : Tp) : List St → Bool
 | a :: b :: p => mayT t a b && wayT t (b :: p)
 | _ => true
def edgeT (t : Tp) (e : Int) : Int := t.edges[e.toNat]!
def sumT (t : Tp) (p : List St) : Int := p.foldl (fun n s => wrap64 (n + edgeT t s.edge)) 0
def lenE (t : Tp) (p : List St) : Int := if p.length = 0 ∨ 40 < p.length then 1 else if p.all fun s => thereT t s.edge then (if wayT t p then 0 else 141) else 1
def lenT (t : Tp) (p : List St) : Int := if lenE t p = 0 then sumT t p else 0
def balT (t : Tp) (id : Int) : Option Bl := t.bals.find? fun b => decide (b.id = id)
def routeT (t : Tp) (id : Int) : Option Rt := t.routes.find? fun r => decide (r.id = id)
end Go.Proofs.YtkaggddmhjifjaaGreatDoor
set_option linter.unusedSimpArgs false
set_option linter.unusedVariables false
namespace Go.Proofs.YtkaggddmhjifjaaGreatDoor
def someT (s : Sp) : Bool := decide (0 ≤ s.edge) && decide (0 ≤ s.lo) && decide (s.lo < s.hi) && decide (s.hi ≤ 1000000)
def keyLe (a b : Sp) : Prop := a.edge < b.edge ∨ a.edge = b.edge ∧ a.lo ≤ b.lo
def joinT : List Sp → List Sp → List Sp
 | out, [] => out
 | [], s :: l => joinT [s] l
 | o :: out, s :: l => if o.edge = s.edge ∧ s.lo ≤ o.hi then joinT (⟨o.edge, o.lo, max o.hi s.hi⟩ :: out) l else joinT (s :: o :: out) l
def sumSp (l : List Sp) : Int := (l.map fun s => s.hi - s.lo).sum
end Go.Proofs.YtkaggddmhjifjaaGreatDoor
set_option linter.unusedSimpArgs false
set_option linter.unusedVariables false
namespace Go.Proofs.YtkaggddmhjifjaaGreatDoor
def endT (t : Tp) (x : En) : Bool := thereT t x.edge && (decide (x.at_ = 0) || decide (x.at_ = 1))
def jointsE (t : Tp) : List Jt → List Jt → Int
 | _, [] => 0
 | d, j :: l => if endT t j.a = false ∨ endT t j.b = false ∨ j.a = j.b then 1 else if joinsT d j.a j.b then 5 else jointsE t (d ++ [j]) l
def balsE (t : Tp) : List Bl → List Bl → Int
 | _, [] => 0
 | d, b :: l => if b.id < 0 ∨ 16777214 < b.id ∨ thereT t b.edge = false ∨ b.at_ < 0 ∨ edgeT t b.edge < b.at_ then 1 else if d.any (fun x => decide (x.id = b.id)) then 5 else balsE t (d ++ [b]) l
def apartE (t : Tp) : List St → List St → Bool
 | _, [] => true
 | d, s :: l => thereT t s.edge && !(d.any fun x => decide (x.edge = s.edge)) && apartE t (d ++ [s]) l
def routedE (t : Tp) (r : Rt) : Int :=
 if r.id < 1 ∨ r.path.length < 1 ∨ 8 < r.path.length then 1 else if apartE t [] r.path = false then 1 else if lenE t r.path ≠ 0 then lenE t r.path else if r.gap < 0 ∨ lenT t r.path ≤ r.gap ∨ r.timer < 1 ∨ 1000 < r.timer then 1 else if r.path.all (fun s => t.bals.any fun b => decide (b.edge = s.edge)) then 0 else 4
def routesE (t : Tp) : List Rt → List Rt → Int
 | _, [] => 0
 | d, r :: l => if routedE t r ≠ 0 then routedE t r else if d.any (fun x => decide (x.id = r.id)) then 5 else routesE t (d ++ [r]) l
def checkT (t : Tp) : Int :=
 if 40 < t.edges.length ∨ 80 < t.joints.length ∨ 80 < t.bals.length ∨ 30 < t.routes.length then 2 else if t.edges.any (fun n => decide (n < 1) || decide (1000000 < n)) then 1 else if jointsE t [] t.joints ≠ 0 then jointsE t [] t.joints else if balsE t [] t.bals ≠ 0 then balsE t [] t.bals else routesE t [] t.routes
def metT (t : Tp) (s : St) : List St := t.joints.flatMap fun j => (if j.a = leavesT s ∧ endT t j.b then [⟨j.b.edge, decide (j.b.at_ = 1)⟩] else []) ++ (if j.b = leavesT s ∧ endT t j.a then [⟨j.a.edge, decide (j.a.at_ = 1)⟩] else [])
def stLe (a b : St) : Bool := decide (a.edge < b.edge) || decide (a.edge = b.edge) && decide ((entersT a).at_ ≤ (entersT b).at_)
def putSt (s : St) : List St → List St
 | [] => [s]
 | x :: l => if s = x then x :: l else if stLe s x then s :: x :: l else x :: putSt s l
def afterT (t : Tp) (s : St) : List St := if thereT t s.edge then (metT t s).foldr putSt [] else []
-- places
def rightT (t : Tp) (p : Ps) : Bool := decide (checkT t = 0) && thereT t p.edge && decide (0 ≤ p.at_) && decide (p.at_ ≤ edgeT t p.edge)
def alongT (t : Tp) (p : Ps) : Int := if p.rev then edgeT t p.edge - p.at_ else p.at_
def overT (t : Tp) (s : St) (n : Int) : Ps := ⟨s.edge, if s.rev then edgeT t s.edge - n else n, s.rev⟩
def none_Ps : Ps := ⟨0, 0, false⟩
def goT (t : Tp) : Nat → St → Int → Int × St × Int
 | k, s, n => if n ≤ edgeT t s.edge then (0, s, n) else match afterT t s with
  | [] => (141, s, n)
  | [x] => match k with
   | 0 => (2, s, n)
   | k + 1 => goT t k x (n - edgeT t s.edge)
  | _ => (140, s, n)
def walkE (t : Tp) (p : Ps) (n : Int) : Int := if rightT t p = false ∨ n < 0 ∨ 1099511627776 < n then 1 else (goT t 40 ⟨p.edge, p.rev⟩ (n + alongT t p)).1
def walkP (t : Tp) (p : Ps) (n : Int) : Ps := if walkE t p n = 0 then (let g := goT t 40 ⟨p.edge, p.rev⟩ (n + alongT t p); overT t g.2.1 g.2.2) else none_Ps
def placeB (b : Bl) (rev : Bool) : Ps := ⟨b.edge, b.at_, rev⟩
def locateE (t : Tp) (id : Int) (rev : Bool) (n : Int) : Int := if checkT t ≠ 0 then 1 else match balT t id with
 | none => 4
 | some b => walkE t (placeB b rev) n
def locateP (t : Tp) (id : Int) (rev : Bool) (n : Int) : Ps := if checkT t ≠ 0 then none_Ps else match balT t id with
 | none => none_Ps
 | some b => walkP t (placeB b rev) n
def aheadT (t : Tp) (x : St) : List St → Int → Option Int
 | [], _ => none
 | s :: l, n => if s = x then some n else aheadT t x l (n + edgeT t s.edge)
def onT (t : Tp) (path : List St) (p : Ps) : Int × Int := if rightT t p = false then (0, 1) else if lenE t path ≠ 0 then (0, lenE t path) else match aheadT t ⟨p.edge, p.rev⟩ path 0 with
 | none => (0, 4)
 | some n => (n + alongT t p, 0)
def offAt (t : Tp) : List St → Int → Ps
 | [], _ => none_Ps
 | s :: l, n => if n ≤ edgeT t s.edge then overT t s n else offAt t l (n - edgeT t s.edge)
def offE (t : Tp) (path : List St) (n : Int) : Int := if checkT t ≠ 0 then 1 else if lenE t path ≠ 0 then lenE t path else if n < 0 ∨ lenT t path < n then 1 else 0
def offP (t : Tp) (path : List St) (n : Int) : Ps := if offE t path n = 0 then offAt t path n else none_Ps
-- pieces
def spLe (a b : Sp) : Bool := decide (a.edge < b.edge) || decide (a.edge = b.edge) && decide (a.lo ≤ b.lo)
def putSp (s : Sp) : List Sp → List Sp
 | [] => [s]
 | x :: l => if spLe s x then s :: x :: l else x :: putSp s l
def normT (l : List Sp) : List Sp := (joinT [] ((l.filter someT).foldr putSp [])).reverse
def pieceT (t : Tp) (fr to_ at_ : Int) (s : St) : Sp :=
 let n := edgeT t s.edge
 let lo := max (fr - at_) 0
 let hi := min (to_ - at_) n
 if s.rev then ⟨s.edge, n - hi, n - lo⟩ else ⟨s.edge, lo, hi⟩
def piecesT (t : Tp) (fr to_ : Int) : List St → Int → List Sp
 | [], _ => []
 | s :: l, at_ => pieceT t fr to_ at_ s :: piecesT t fr to_ l (at_ + edgeT t s.edge)
def spanE (t : Tp) (path : List St) (fr to_ : Int) : Int := if lenE t path ≠ 0 then lenE t path else if t.edges.any (fun n => decide (n < 1) || decide (1000000 < n)) ∨ fr < 0 ∨ to_ < fr ∨ lenT t path < to_ then 1 else 0
def spanT (t : Tp) (path : List St) (fr to_ : Int) : List Sp := if spanE t path fr to_ = 0 then normT (piecesT t fr to_ path 0) else []
def totalT (l : List Sp) : Int := sumSp (normT l)
-- authorities
def overP (path : List St) (edge : Int) : Bool := path.any fun s => decide (s.edge = edge)
def twiceP : List St → List St → Bool
 | _, [] => false
 | d, s :: l => overP d s.edge || twiceP (d ++ [s]) l
def leftP (t : Tp) (m : Ma) : Option (Int × Int) := match balT t m.ref with
 | none => none
 | some b => if m.path.head? ≠ some ⟨b.edge, m.rev⟩ ∨ lenE t m.path ≠ 0 then none else (let behind := if m.rev then edgeT t b.edge - b.at_ else b.at_; some (lenT t m.path - behind, behind))
def sectsP : Int → List Sc → Bool
 | _, [] => true
 | last, s :: l => decide (last < s.to_) && decide (s.to_ ≤ 1099511627776) && decide (1 ≤ s.timer) && decide (s.timer ≤ 1000) && sectsP s.to_ l
def lastP (m : Ma) : Int := match m.sects.getLast? with
 | none => 0
 | some s => s.to_
def mayP (t : Tp) (m : Ma) : Bool := decide (checkT t = 0) && decide (m.path.length ≤ 24) && !twiceP [] m.path && decide (1 ≤ m.sects.length) && decide (m.sects.length ≤ 8) && decide (0 ≤ m.gap) && decide (m.gap ≤ 1099511627776) && sectsP 0 m.sects && (match leftP t m with
 | none => false
 | some x => decide (lastP m + m.gap ≤ x.1))
def reachP : List Sc → Int → Int → Int
 | [], _, n => n
 | s :: l, age, n => if s.timer ≤ age then n else reachP l age s.to_
def extentT (t : Tp) (m : Ma) (fr to_ : Int) : List Sp := if mayP t m = false ∨ fr < 0 ∨ to_ < fr ∨ lastP m + m.gap < to_ then [] else match leftP t m with
 | none => []
 | some x => spanT t m.path (x.2 + fr) (x.2 + to_)
structure Lo where
 route : Int
 train : Int
 no : Int
deriving DecidableEq
def nextP (t : Tp) (l : List Lo) (train : Int) (out : List Lo) (ok : Rt → Bool) : Option (Lo × Rt) := l.findSome? fun k => match routeT t k.route with
 | none => none
 | some r => if k.train = train ∧ k ∉ out ∧ ok r then some (k, r) else none
def followsP (t : Tp) (gone : List St) (r : Rt) : Bool := match gone.getLast?, r.path.head? with
 | some g, some h => decide (h ∈ afterT t g) && !(r.path.any fun s => overP gone s.edge)
 | _, _ => false
def chainOn (t : Tp) (l : List Lo) (train : Int) : Nat → List Lo → List St → List Lo
 | 0, out, _ => out
 | k + 1, out, gone => match nextP t l train out (followsP t gone) with
  | none => out
  | some (x, r) => chainOn t l train k (out ++ [x]) (gone ++ r.path)
def chainP (t : Tp) (l : List Lo) (train : Int) (s : St) : List Lo := if checkT t ≠ 0 then [] else match nextP t l train [] (fun r => decide (s ∈ r.path)) with
 | none => []
 | some (x, r) => chainOn t l train 7 [x] r.path
def goneOn (t : Tp) : Nat → St → Int → List St
 | 0, _, _ => []
 | k + 1, s, n => if edgeT t s.edge < n then (match afterT t s with
  | [] => []
  | x :: _ => x :: goneOn t k x (n - edgeT t s.edge)) else []
def goneP (t : Tp) (b : Bl) (rev : Bool) (n : Int) : List St := ⟨b.edge, rev⟩ :: goneOn t 41 ⟨b.edge, rev⟩ (n + alongT t (placeB b rev))
def sectsOn (t : Tp) (s : St) : Bool → List Rt → Int → List St × List Sc × Int → List St × List Sc × Int
 | _, [], _, r => r
 | first, x :: l, at_, r =>
  let path := if first then (x.path.dropWhile fun y => decide (y ≠ s)).drop 1 else x.path
  let at2 := at_ + (path.map fun y => edgeT t y.edge).sum
  sectsOn t s false l at2 (r.1 ++ path, r.2.1 ++ [⟨at2, x.timer⟩], x.gap)
def lessLast : List Sc → Int → List Sc
 | [], _ => []
 | [x], g => [⟨x.to_ - g, x.timer⟩]
 | x :: l, g => x :: lessLast l g
def none_Ma : Ma := ⟨0, false, [], [], 0⟩
def buildM (t : Tp) (l : List Lo) (train ref : Int) (rev : Bool) (n : Int) (b : Bl) : Ma :=
 let front := locateP t ref rev n
 let s : St := ⟨front.edge, front.rev⟩
 let path := goneP t b rev n
 let at_ := (path.map fun y => edgeT t y.edge).sum - alongT t (placeB b rev)
 let r := sectsOn t s true ((chainP t l train s).filterMap fun k => routeT t k.route) at_ (path, [], 0)
 ⟨ref, rev, r.1, lessLast r.2.1 r.2.2, r.2.2⟩
def buildE (t : Tp) (l : List Lo) (train ref : Int) (rev : Bool) (n : Int) : Int :=
 if locateE t ref rev n ≠ 0 then locateE t ref rev n else if chainP t l train ⟨(locateP t ref rev n).edge, (locateP t ref rev n).rev⟩ = [] then 4 else match balT t ref with
 | none => 4
 | some b =>
  let m := buildM t l train ref rev n b
  if 24 < m.path.length ∨ twiceP [] m.path = true then 2 else if lastP m ≤ n then 141 else match m.sects.reverse with
   | x :: y :: _ => if x.to_ ≤ y.to_ then 141 else 0
   | _ => 0
def buildP (t : Tp) (l : List Lo) (train ref : Int) (rev : Bool) (n : Int) : Ma :=
 if buildE t l train ref rev n ≠ 0 then none_Ma else match balT t ref with
 | none => none_Ma
 | some b =>
  let m := buildM t l train ref rev n b
  match m.sects with
  | x :: l => if x.to_ = 0 then { m with sects := l } else m
  | [] => m
-- aboard
structure Rl where
 ahead : Int
 behind : Int
 period : Int
 most : Int
 quiet : Int
 quarantine : Int
 brake : Int
 skew : Int
 lend : Int
def timeP (n : Int) : Bool := decide (0 ≤ n) && decide (n ≤ 4294967294)
def clockP (n : Int) : Bool := decide (0 ≤ n) && decide (n ≤ 268435456)
def rulesP (r : Rl) : Bool := timeP r.ahead && timeP r.behind && decide (1 ≤ r.period) && decide (r.period ≤ 1048576) && decide (1 ≤ r.quiet) && decide (r.quiet ≤ 1048576) && decide (0 ≤ r.most) && decide (r.most ≤ 20) && clockP r.quarantine && clockP r.skew && clockP r.lend && decide (0 ≤ r.brake) && decide (r.brake ≤ 1099511627776)
def risingP : Int → List Int → Bool
 | _, [] => true
 | last, n :: l => decide (last < n) && decide (n ≤ 15) && risingP n l
def blankP (m : Ma) : Bool := decide (m.ref = 0) && !m.rev && m.path.isEmpty && m.sects.isEmpty && decide (m.gap = 0)
structure Tr where
 id : Int
 len : Int
 rl : Rl
 side : Int
 train : Int
 sl : Int
 sa : Int
 sb : Int
 free : Bool
 last : Int
 on : Bool
 pos : Ps
 ref : Int
 past : Int
 rev : Bool
 ma : Ma
 at_ : Int
 held : Bool
 stops : List Int
def mayX (t : Tp) (x : Tr) : Bool := rulesP x.rl && decide (0 ≤ x.id) && decide (x.id < 16777216) && decide (1 ≤ x.len) && decide (x.len ≤ 32766) && decide (x.side = 0) && decide (x.train = x.id) && timeP x.sa && timeP x.sb && (decide (x.sl = -1) || timeP x.sl) && decide (-1 ≤ x.last) && decide (x.last ≤ 4294967294) && rightT t x.pos && decide (0 ≤ x.past) && decide (x.past ≤ 1099511627776) && risingP (-1) x.stops && (balT t x.ref).isSome && decide (0 ≤ x.at_) && decide (x.at_ ≤ 268435456) && (if x.held then mayP t x.ma else blankP x.ma && decide (x.at_ = 0))
def backX (t : Tp) (m : Ma) : Option Int := match balT t m.ref with
 | none => none
 | some b => if (onT t m.path (placeB b m.rev)).2 = 0 then some (onT t m.path (placeB b m.rev)).1 else none
def frontM (t : Tp) (m : Ma) (p : Ps) : Option Int := match backX t m with
 | none => none
 | some b => if (onT t m.path p).2 = 0 ∧ b ≤ (onT t m.path p).1 then some ((onT t m.path p).1 - b) else none
def frontX (t : Tp) (x : Tr) : Option Int := if mayX t x = true ∧ x.held = true then frontM t x.ma x.pos else none
def authX (t : Tp) (x : Tr) (now : Int) : List Sp := match frontX t x with
 | none => []
 | some n => if x.stops ≠ [] ∨ clockP now = false then [] else if reachP x.ma.sects (now - x.at_) 0 ≤ n then [] else extentT t x.ma n (reachP x.ma.sects (now - x.at_) 0)
def movedE (t : Tp) (x : Tr) (n now : Int) : Int := match frontX t x with
 | none => 6
 | some a => if x.stops ≠ [] then 6 else if n < 1 then 1 else if reachP x.ma.sects (now - x.at_) 0 - a < n then 141 else 0
def metX (t : Tp) (x : Tr) (fr to_ : Int) : List Bl → Int × Int × Bool × Int → Int × Int × Bool × Int
 | [], r => r
 | g :: l, r => match x.ma.path.find? (fun s => decide (s.edge = g.edge)) with
  | none => metX t x fr to_ l r
  | some s => let o := (onT t x.ma.path ⟨g.edge, g.at_, s.rev⟩).1
   if r.1 < o ∧ o ≤ to_ then metX t x fr to_ l (o, g.id, s.rev, to_ - o) else metX t x fr to_ l r
def movedX (t : Tp) (x : Tr) (n : Int) : Tr := match frontX t x, backX t x.ma with
 | some a, some b => let r := metX t x (b + a) (b + a + n) t.bals (b + a, x.ref, x.rev, x.past + n)
  { x with pos := offP t x.ma.path (b + a + n), ref := r.2.1, rev := r.2.2.1, past := r.2.2.2 }
 | _, _ => x
-- the chapter's example
def line16 : Tp := ⟨[100, 200, 300], [⟨⟨0, 1⟩, ⟨1, 0⟩⟩, ⟨⟨1, 1⟩, ⟨2, 0⟩⟩], [⟨7, 0, 10⟩, ⟨8, 1, 20⟩, ⟨9, 2, 30⟩], [⟨1, [⟨0, false⟩, ⟨1, false⟩], 0, 30⟩, ⟨2, [⟨1, false⟩, ⟨2, false⟩], 50, 20⟩]⟩
example : checkT line16 = 0 := by decide +kernel
example : locateE line16 7 false 40 = 0 ∧ (locateP line16 7 false 40).edge = 0 ∧ (locateP line16 7 false 40).at_ = 50 := by decide +kernel
example : chainP line16 [⟨1, 5, 1⟩] 5 ⟨0, false⟩ = [⟨1, 5, 1⟩] := by decide +kernel
example : buildE line16 [⟨1, 5, 1⟩] 5 7 false 40 = 0 := by decide +kernel
def ma16 : Ma := ⟨7, false, [⟨0, false⟩, ⟨1, false⟩], [⟨290, 30⟩], 0⟩
example : (buildP line16 [⟨1, 5, 1⟩] 5 7 false 40).path = ma16.path ∧ (buildP line16 [⟨1, 5, 1⟩] 5 7 false 40).sects.map (fun s => (s.to_, s.timer)) = [(290, 30)] ∧ (buildP line16 [⟨1, 5, 1⟩] 5 7 false 40).gap = 0 := by decide +kernel
def rules19 : Rl := ⟨100, 100, 10, 2, 50, 70, 20, 0, 0⟩
def train19 : Tr := ⟨5, 400, rules19, 0, 5, -1, 100, 100, false, -1, false, ⟨0, 50, false⟩, 7, 40, false, ma16, 3, true, []⟩
example : mayX line16 train19 = true := by decide +kernel
example : frontX line16 train19 = some 40 ∧ totalT (authX line16 train19 32) = 250 := by decide +kernel
example : movedE line16 train19 250 32 = 0 ∧ movedE line16 train19 251 32 = 141 ∧ movedE line16 train19 1 33 = 141 := by decide +kernel
def moved19 : Tr := ⟨5, 400, rules19, 0, 5, -1, 100, 100, false, -1, false, ⟨1, 200, false⟩, 8, 180, false, ma16, 3, true, []⟩
example : (movedX line16 train19 250).pos.edge = 1 ∧ (movedX line16 train19 250).pos.at_ = 200 ∧ (movedX line16 train19 250).ref = 8 ∧ (movedX line16 train19 250).past = 180 ∧ mayX line16 moved19 = true := by decide +kernel
end Go.Proofs.YtkaggddmhjifjaaGreatDoor
