/- append(s, make([]T, m)...): the elements are noughts; the model has it as an append of a number. -/
import Derived.Test.YtildoeladlflpaaBytesOwn
namespace Go.Proofs.Ytildoeladlflpaa
open Go.RowKit

theorem zeroCells_one (z : Value) (m : Nat) : Builtin.zeroCells #[z] m = (List.replicate m z).toArray := by
  apply Array.ext'
  simp only [Builtin.zeroCells, List.size_toArray, List.length_cons, List.length_nil, Nat.zero_add, Nat.mul_one, Nat.mod_one]
  apply List.ext_getElem
  · simp
  · intro j h1 h2
    simp
section
variable {P : Program} (w : World)
theorem run_append_zeros (base : Nat) (t u ty e : TypeId) (i : TypeInfo) (z : Value) (bytes : Nat) (ht : P.underlying t = some (.slice e)) (hu : P.underlying u = some (.int .i64)) (hi : P.info? e = some i) (hz : i.zero = some z)
    (hsize : i.size = 1) (hby : i.bytes = bytes) (hzs : z.cells = #[z]) (hz1 : z.oneCell' = true)
    (v : Value) (n : Nat) (xs : List Value) (hown : w.ownsRow base e 1 v n xs) (m : Nat)
    (h63 : n + m ≤ maxLen) (hbytes : (n + m) * bytes ≤ 140737488355328) (hbase : base ≤ w.heap.size) :
    ∃ v' w', (Builtin.append_ #[t, u] ty #[v, .int .i64 m]).run P w = .ok v' w' ∧ w'.ownsRow base e 1 v' (n + m) (xs ++ List.replicate m z) ∧ w.grownBy w' v.ownBlock := by
  subst hby
  have hsmall : n + m ≤ 9223372036854775807 := by simp only [maxLen] at h63; omega
  have hlen : (xs ++ List.replicate m z).length = (n + m) * 1 := by rw [List.length_append, hown.1, List.length_replicate]; omega
  have grown : ∀ (old : Nat), old < n + m → ∀ (row : Option Nat),
      (w.drew.alloc (.cells (xs.toArray ++ (List.replicate m z).toArray ++ Builtin.zeroCells z.cells (grownCap w (n + m) old e - (n + m))) e)).ownsRow base e 1
        (.slice (some ⟨w.heap.size, 0, none⟩) (n + m) (grownCap w (n + m) old e)) (n + m) (xs ++ List.replicate m z) ∧
      w.grownBy (w.drew.alloc (.cells (xs.toArray ++ (List.replicate m z).toArray ++ Builtin.zeroCells z.cells (grownCap w (n + m) old e - (n + m))) e)) row := by
    intro old ho row
    have hge := grownCap_ge w (n + m) old e
    have hcm : grownCap w (n + m) old e ≤ maxLen := grownCap_le_maxLen w (n + m) old e h63
    refine ⟨⟨hlen, .inr ⟨w.heap.size, _, _, rfl, hbase, heap_alloc_new w.drew _, hge, hcm, ?_, ?_⟩⟩, ⟨rfl, rfl, rfl, by simp, fun k hk _ => heap_alloc_old w.drew _ hk⟩⟩
    · have := hown.1
      simp only [Array.size_append, List.size_toArray, size_zeroCells, hzs, List.length_replicate, List.size_toArray, List.length_cons, List.length_nil]
      omega
    · simp only [Array.toList_append, List.append_assoc]
      rw [← List.append_assoc, ← hlen]
      exact List.take_left
  have hwr : IntKind.i64.wrap (m : Int) = m := by rw [IntKind.wrap_i64]; omega
  have hmb : ¬ (281474976710656 < (m : Int) * i.bytes) := by
    have h1 : m * i.bytes ≤ (n + m) * i.bytes := Nat.mul_le_mul_right _ (by omega)
    have h2 : m * i.bytes ≤ 281474976710656 := by omega
    have h3 : ((m * i.bytes : Nat) : Int) ≤ ((281474976710656 : Nat) : Int) := Int.ofNat_le.2 h2
    rw [Int.natCast_mul] at h3
    omega
  have has : ∀ w' : World, (asInt (.int .i64 (m : Int))).run P w' = .ok (m : Int) w' := fun _ => rfl
  have hm0 : ¬ ((m : Int) < 0) := by omega
  rcases hown.2 with ⟨rfl, rfl⟩ | ⟨g, cap, cur, rfl, hbg, hg, hnc, hcm, hcs, htake⟩
  · have hx : xs = [] := List.eq_nil_of_length_eq_zero (by simpa using hown.1)
    subst hx
    by_cases hm : m = 0
    · subst hm
      refine ⟨.slice none 0 0, w, ?_, World.ownsRow_nil w base e 1, ⟨rfl, rfl, rfl, Nat.le_refl _, fun _ _ _ => rfl⟩⟩
      simp only [Int.natCast_zero] at hwr has hm0 hmb
      have hwr' : IntKind.i64.wrap 0 = 0 := by decide
      simp [Builtin.append_, run_underlying ht, run_underlying hu, sizeOf, typeInfo, hi, has, hwr']
    · have h0 : 0 < m := by omega
      have hgr := grown 0 (by omega) (Value.ownBlock (.slice none 0 0))
      have h63' : ¬ (9223372036854775807 < (m : Int)) := by omega
      have h48' : ¬ (281474976710656 < Builtin.nextslicecap m 0 * i.bytes) := by rw [nextslicecap_zero h0]; simp only [Nat.zero_add] at hbytes; omega
      refine ⟨_, _, ?_, hgr.1, hgr.2⟩
      simp [Builtin.append_, run_underlying ht, run_underlying hu, sizeOf, typeInfo, zeroValue, hi, hz, has, hwr, hm0, hmb, hm, hsize, h63', h48', Question.forced, run_firstCells_none, newRow, grownCap, hzs, zeroCells_one]
  · have holds : ∀ j u, xs[j]? = some u → w.cell? ((⟨g, 0, none⟩ : Addr).add j) = some u := hown.cells (g := g) rfl
    by_cases hroom : n + m ≤ cap
    · have hfit : n * 1 + (List.replicate m z).length ≤ cur.size := by rw [List.length_replicate, hcs]; omega
      have hst := run_storeCells_at P g (n * 1) e (List.replicate m z) 0 cur w hg (by simpa using hfit) (by intro u hu; rw [List.mem_replicate] at hu; rw [hu.2]; exact hz1)
      simp only [Nat.add_zero] at hst
      refine ⟨.slice (some ⟨g, 0, none⟩) (n + m) cap, w.setRow g (cur.toList.take (n * 1) ++ List.replicate m z ++ cur.toList.drop (n * 1 + (List.replicate m z).length)).toArray, ?_, ⟨hlen, .inr ⟨g, cap, _, rfl, hbg, setRow_heap w g cur _ e _ hg, hroom, hcm, ?_, ?_⟩⟩, ⟨rfl, rfl, rfl, by simp, fun k _ hk => setRow_other w g k _ (fun e => hk (by simp [Value.ownBlock, e]))⟩⟩
      · by_cases hm : m = 0
        · subst hm
          simp only [List.replicate_zero, Nat.mul_one] at hst ⊢
          simp only [Int.natCast_zero] at hwr has hm0 hmb
          have hwr' : IntKind.i64.wrap 0 = 0 := by decide
          simp [Builtin.append_, run_underlying ht, run_underlying hu, sizeOf, typeInfo, zeroValue, hi, hz, has, hwr', hsize, hnc]
          simpa [storeCells] using hst
        · simp only [Nat.mul_one] at hst ⊢
          simp [Builtin.append_, run_underlying ht, run_underlying hu, sizeOf, typeInfo, zeroValue, hi, hz, has, hwr, hm0, hmb, hm, hsize, hroom, hzs, zeroCells_one, Addr.add_lit]
          simp only [List.length_replicate, Nat.zero_add, List.append_assoc] at hst ⊢
          simp [hst]
      · simp only [List.size_toArray, List.length_append, List.length_take, List.length_drop, Array.length_toList]
        omega
      · rw [htake, ← hlen]
        exact List.take_left
    · have hm : m ≠ 0 := by omega
      have hgr := grown cap (by omega) (Value.ownBlock (.slice (some ⟨g, 0, none⟩) n cap))
      have hnr : ¬ (n + m ≤ cap) := hroom
      have h63' : ¬ (9223372036854775807 < (n : Int) + (m : Int)) := by omega
      have h48' : ¬ (281474976710656 < Builtin.nextslicecap (n + m) cap * i.bytes) := by have := growslice_fits (old := cap) (by omega) hbytes; omega
      have hfo := run_firstCells_some (P := P) w.drew 1 n ⟨g, 0, none⟩ n cap xs hown.1 (by simpa using holds)
      refine ⟨_, _, ?_, hgr.1, hgr.2⟩
      simp [Builtin.append_, run_underlying ht, run_underlying hu, sizeOf, typeInfo, zeroValue, hi, hz, has, hwr, hm0, hmb, hm, hsize, hnr, h63', h48', Question.forced, hfo, newRow, grownCap, hzs, zeroCells_one]
end
theorem wpList_app_zeros {w : World} {ops : Array Oper} {rest : List Oper} {o : Oper} {a : Act} {Q : Exit → Act → World → Prop} (hgd : o.guard = none) (s x : Operand)
    (ho : o.op = .call { callee := .builtin .append, args := #[s, x], argTypes := #[25, 3] })
    (base : Nat) (A1 : Option Addr) (c1 : Nat) (xs : List UInt8) (n1 : Nat) (hs : a.eval s = .slice A1 n1 c1) (hn1 : n1 = xs.length) (hown : OwnB w base A1 c1 xs)
    (m : Nat) (hx : a.eval x = .int .i64 m) (hlen : xs.length + m ≤ 140737488355328) (hbase : base ≤ w.heap.size)
    (h : ∀ A2 c2 W, OwnB W base A2 c2 (xs ++ List.replicate m 0) → w.grownBy W (rowOf A1) → Below base w W → wpList Try.prog ops Q rest (a.put o.dst (.slice A2 (n1 + m) c2)) W) : wpList Try.prog ops Q (o :: rest) a w := by
  subst hn1
  obtain ⟨i0, hi0, hz0, hz1, hz2⟩ := info_parts info_u8
  obtain ⟨v', W, hr, h1, h2⟩ := run_append_zeros (P := Try.prog) w base 25 3 o.type 5 i0 (.int .u8 0) 1 Try.underlying25 Try.underlying3 hi0 hz0 hz1 hz2 rfl rfl _ _ _ hown m (by simp only [maxLen]; omega) (by omega) hbase
  rw [ownBlock_slice] at h2
  have hb : Below base w W := (Below.refl base w).grown h2 hbase (fun k hk => (hown.row_ge k hk).1)
  have h4 : ∃ A2 c2, v' = .slice A2 (xs.length + m) c2 := by
    rcases h1.2 with ⟨e, h0⟩ | ⟨g, cap, _, e, _⟩
    · exact ⟨none, 0, by rw [e, h0]⟩
    · exact ⟨_, _, e⟩
  obtain ⟨A2, c2, rfl⟩ := h4
  refine wpList_plain hgd fun K hK => ?_
  unfold Oper.wp execOp
  simp only [ho, resolve, invoke, builtin, Sem.run_bind, Sem.run_pure, Result.andThen_ok, List.map_toArray, List.map_cons, List.map_nil, hs, hx, hr]
  refine hK _ _ (h A2 c2 W ?_ h2 hb)
  unfold OwnB
  rw [List.length_append, List.length_replicate, cellsOf_append]
  have e : cellsOf (List.replicate m 0) = List.replicate m (Value.int .u8 0) := by
    unfold cellsOf
    rw [List.map_replicate]
    rfl
  rw [e]
  exact h1
end Go.Proofs.Ytildoeladlflpaa
