/- Calls that came in, opened to the walk's own words: a call's four cells are those of a message. -/
import Derived.Test.YtiloammjejggjaaLinkIn
set_option linter.unusedSimpArgs false
set_option linter.unusedVariables false
namespace Go.Proofs.Ytiloammjejggjaa
open Go.ChangeShapes Go.WideShapes Go.ChangeAt Go.RowKit Go.Deep

section
variable {H : Type} {enc : TypeId × Value → H} {w : World} {base : Nat} {spare : Nat → Bool}
theorem int_of_trodw {held : Bool} {fuel : Nat} {v : Value} {x : DataW H × List MemPlace} (hf : DataW.trod enc Try.prog w base spare held fuel 3 [v] = some x) : ∃ n : Int, v = .int .i64 n ∧ -9223372036854775808 ≤ n ∧ n ≤ 9223372036854775807 := by
  obtain ⟨n, e, _, hw⟩ := DataW.trod_int Try.underlying3 hf
  exact ⟨n, by simpa using e, (bounds_i64 hw).1, (bounds_i64 hw).2⟩
theorem op_of_trod {held : Bool} {fuel : Nat} {cs : List Value} {x : DataW H × List MemPlace} (hf : DataW.trod enc Try.prog w base (fun _ => true) held fuel 41 cs = some x) : ∃ p : Wt × Value, cs = wcell p ∧ IsBytes p.1.body p.2 w ∧ -9223372036854775808 ≤ p.1.due ∧ p.1.due ≤ 9223372036854775807 := by
  have hc4 : Try.prog.cellsOf 41 = 4 := by kernel_rfl
  have c3 : Try.prog.cellsOf 3 = 1 := by kernel_rfl
  have c23 : Try.prog.cellsOf 33 = 1 := by kernel_rfl
  obtain ⟨xs, n, _, _, hl, hlen, hg⟩ := DataW.trod_struct Try.underlying41 hf
  rw [hc4] at hl
  match cs, hl, xs, hlen with
  | [y0, y1, y2, y3], _, [x0, x1, x2, x3], _ =>
    obtain ⟨a, rfl⟩ := int_of_trod (v := y0) (x := x0) (by simpa [c3] using hg 0 _ rfl)
    obtain ⟨b, rfl, hb1, hb2⟩ := int_of_trodw (v := y1) (x := x1) (by simpa [c3] using hg 1 _ rfl)
    obtain ⟨c, rfl⟩ := int_of_trod (v := y2) (x := x2) (by simpa [c3] using hg 2 _ rfl)
    obtain ⟨bs, hB⟩ := bytes_of_trod (v := y3) (x := x3) (by simpa [c23] using hg 3 _ rfl)
    exact ⟨(⟨a, b, c, bs⟩, y3), rfl, hB, hb1, hb2⟩
theorem open_ops {r : Reach} {b0 : Nat} {v : Value} {d : DataW H} {p : List MemPlace} {held : Bool} (hv : Value.okWide Try.prog w r b0 45 v) (h : DataW.Trod enc Try.prog w base (fun _ => true) held 45 v d p) :
    ∃ ws, IsWaits ws v w ∧ ∀ x ∈ ws, -9223372036854775808 ≤ x.due ∧ x.due ≤ 9223372036854775807 := by
  obtain ⟨A, n, c, rfl⟩ := okWide_slice Try.underlying45 hv
  obtain ⟨fuel, hf⟩ := h
  have hc4 : Try.prog.cellsOf 41 = 4 := by kernel_rfl
  rcases open_slice Try.underlying45 hf with ⟨h0, _⟩ | ⟨a, len, cap, m, k, D, Pl, hcs, _, hl, hm, hmm, _, hi⟩
  · simp [Value.cells] at h0
    obtain ⟨rfl, rfl, rfl⟩ := h0
    exact ⟨[], IsWaits.nil w, fun x hx => absurd hx List.not_mem_nil⟩
  · simp [Value.cells] at hcs
    obtain ⟨rfl, rfl, rfl⟩ := hcs
    simp only [if_true] at hmm
    subst hmm
    rw [hc4] at hi
    obtain ⟨xs, hxl, hx⟩ := list_of (P := fun i (p : Wt × Value) => IsBytes p.1.body p.2 w ∧ (-9223372036854775808 ≤ p.1.due ∧ p.1.due ≤ 9223372036854775807) ∧ ∀ j u, (wcell p)[j]? = some u → w.cell? (a.add (i * 4 + j)) = some u) n (fun i hlt => by
      obtain ⟨cs', hc, ht⟩ := hi i (by omega)
      obtain ⟨p, rfl, hB, hb1, hb2⟩ := op_of_trod ht
      obtain ⟨_, hcl, hat⟩ := World.cells?_some hc
      refine ⟨p, hB, ⟨hb1, hb2⟩, fun j u hu => ?_⟩
      have hj : j < 4 := by
        rcases Nat.lt_or_ge j 4 with h | h
        · exact h
        · rw [List.getElem?_eq_none (by simpa [wcell] using h)] at hu; cases hu
      rw [← Go.Deep.add_add, hat j hj, hu])
    refine ⟨xs.map (·.1), ⟨some a, _, xs, by rw [List.length_map, hxl], rfl, ⟨?_, fun p hp => ?_⟩, by rw [List.length_map, hxl]; exact hl, hm⟩, fun x hxm => ?_⟩
    · intro h0
      rw [flat_length, hxl] at h0
      have hcell : ∀ j u, (flat xs)[j]? = some u → w.cell? (a.add j) = some u := by
        intro j u hu
        have hjl : j < xs.length * 4 := by
          rw [← flat_length]
          rcases Nat.lt_or_ge j (flat xs).length with h | h
          · exact h
          · rw [List.getElem?_eq_none h] at hu; cases hu
        have hxi : xs[j / 4]? = some (xs[j / 4]'(by omega)) := List.getElem?_eq_getElem (by omega)
        have e := flat_at hxi (j % 4) (by omega)
        rw [show j / 4 * 4 + j % 4 = j by omega, hu] at e
        have := (hx _ _ hxi).2.2 (j % 4) u e.symm
        rwa [show j / 4 * 4 + j % 4 = j by omega] at this
      obtain ⟨ab, ao, spot⟩ := a
      have h00 : (flat xs)[0]? = some ((flat xs)[0]'(by rw [flat_length]; omega)) := List.getElem?_eq_getElem _
      have hspot : spot = none := by simpa [Addr.add] using World.cell?_spot (hcell 0 _ h00)
      subst hspot
      exact ⟨ab, ao, rfl, by simpa [Addr.add] using cell_lt (hcell 0 _ h00), fun j u hu => by have := hcell j u hu; rwa [Addr.add_lit] at this⟩
    · obtain ⟨i, hi'⟩ := List.getElem?_of_mem hp
      exact (hx i p hi').1
    · obtain ⟨p, hp, rfl⟩ := List.mem_map.1 hxm
      obtain ⟨i, hi'⟩ := List.getElem?_of_mem hp
      exact (hx i p hi').2.1
end
end Go.Proofs.Ytiloammjejggjaa
