/- A PDU that came in, opened to the walk's own words. -/
import Derived.Test.YtnngknmmokajgaaBytesIn
import Derived.Test.YtnngknmmokajgaaPduDoc3
set_option linter.unusedSimpArgs false
set_option linter.unusedVariables false
namespace Go.Proofs.Ytnngknmmokajgaa
open Go.ChangeShapes Go.WideShapes Go.ChangeAt Go.RowKit Go.Deep

section
variable {H : Type} {enc : TypeId × Value → H} {w : World} {base : Nat} {spare : Nat → Bool}
theorem bytes_of_trod {held : Bool} {fuel : Nat} {v : Value} {x : DataW H × List MemPlace} (hf : DataW.trod enc Try.prog w base (fun _ => true) held fuel 27 [v] = some x) : ∃ bs, IsBytes bs v w := by
  have hc1 : Try.prog.cellsOf 5 = 1 := by kernel_rfl
  rcases open_ints Try.underlying27 Try.underlying5 hc1 hf with ⟨hcs, hx⟩ | ⟨a, len', cap', zs, hcs, _, hl, hm, hz, hx, hcell, hwz⟩
  · simp at hcs
    subst hcs
    exact ⟨[], none, 0, rfl, Bytes.nil _⟩
  · simp at hcs
    subst hcs
    simp only [if_true] at hz
    have hlen : ((zs.take len').map fun n => UInt8.ofNat n.toNat).length = len' := by simp; omega
    refine ⟨(zs.take len').map fun n => UInt8.ofNat n.toNat, some a, cap', by rw [hlen], ?_, by rw [hlen]; exact hl, hm⟩
    intro h0
    rw [cellsOf_length, hlen] at h0
    obtain ⟨ab, ao, spot⟩ := a
    have hspot : spot = none := by simpa [Addr.add] using World.cell?_spot (hcell 0 (by omega))
    subst hspot
    refine ⟨ab, ao, rfl, ?_, ?_⟩
    · have := hcell 0 (by omega)
      exact cell_lt this
    · intro j u hu
      have hj : j < len' := by
        rcases Nat.lt_or_ge j len' with hj | hj
        · exact hj
        · rw [List.getElem?_eq_none (by rw [cellsOf_length, hlen]; exact hj)] at hu; cases hu
      have hcj := hcell j (by omega)
      rw [Addr.add_lit] at hcj
      rw [hcj]
      have e : zs[j]? = some (zs[j]'(by omega)) := List.getElem?_eq_getElem (by omega)
      rw [List.getD_eq_getElem?_getD, e]
      unfold cellsOf at hu
      rw [List.getElem?_map, List.getElem?_map, List.getElem?_take_of_lt hj, e] at hu
      simp only [Option.map_some, Option.some.injEq] at hu
      rw [← hu, Option.getD_some, q8_wf _ (hwz _ (List.getElem_mem _))]
theorem int_of_trod {held : Bool} {fuel : Nat} {v : Value} {x : DataW H × List MemPlace} (hf : DataW.trod enc Try.prog w base spare held fuel 3 [v] = some x) : ∃ n : Int, v = .int .i64 n := by
  obtain ⟨n, e, _, _⟩ := DataW.trod_int Try.underlying3 hf
  exact ⟨n, by simpa using e⟩
theorem q32_of_trod {held : Bool} {fuel : Nat} {v : Value} {x : DataW H × List MemPlace} (hf : DataW.trod enc Try.prog w base spare held fuel 22 [v] = some x) : ∃ a : BitVec 32, v = q32 a := by
  obtain ⟨n, e, _, hw⟩ := DataW.trod_int Try.underlying22 hf
  obtain rfl : v = .int .u32 n := by simpa using e
  have hb := bounds_u32 hw
  exact ⟨_, q32_ofInt n hb.1 (by omega)⟩
theorem q64_of_trod {held : Bool} {fuel : Nat} {v : Value} {x : DataW H × List MemPlace} (hf : DataW.trod enc Try.prog w base spare held fuel 28 [v] = some x) : ∃ a : BitVec 64, v = q64 a := by
  obtain ⟨n, e, _, hw⟩ := DataW.trod_int Try.underlying28 hf
  obtain rfl : v = .int .u64 n := by simpa using e
  have hb := bounds_u64 hw
  exact ⟨_, q64_ofInt n hb.1 (by omega)⟩
theorem array7 {α : Type} {cs : Array α} (h : cs.size = 7) : ∃ c0 c1 c2 c3 c4 c5 c6, cs = #[c0, c1, c2, c3, c4, c5, c6] := by
  obtain ⟨l⟩ := cs
  match l, h with
  | [c0, c1, c2, c3, c4, c5, c6], _ => exact ⟨c0, c1, c2, c3, c4, c5, c6, rfl⟩
theorem open_pdu {r : Reach} {b0 : Nat} {v : Value} {d : DataW H} {p : List MemPlace} {held : Bool} (hv : Value.okWide Try.prog w r b0 30 v) (h : DataW.Trod enc Try.prog w base (fun _ => true) held 30 v d p) :
    ∃ s : P7, IsPduB s v w := by
  obtain ⟨cs, rfl, hsz⟩ := okWide_struct Try.underlying30 hv
  have hc7 : Try.prog.cellsOf 30 = 7 := by kernel_rfl
  have c3 : Try.prog.cellsOf 3 = 1 := by kernel_rfl
  have c22 : Try.prog.cellsOf 22 = 1 := by kernel_rfl
  have c23 : Try.prog.cellsOf 27 = 1 := by kernel_rfl
  have c24 : Try.prog.cellsOf 28 = 1 := by kernel_rfl
  obtain ⟨y0, y1, y2, y3, y4, y5, y6, rfl⟩ := array7 (hsz.trans hc7)
  obtain ⟨fuel, hf⟩ := h
  obtain ⟨xs, n, _, _, _, hlen, hg⟩ := DataW.trod_struct Try.underlying30 hf
  match xs, hlen with
  | [x0, x1, x2, x3, x4, x5, x6], _ =>
    obtain ⟨k, rfl⟩ := int_of_trod (v := y0) (x := x0) (by simpa [Value.cells, c3] using hg 0 _ rfl)
    obtain ⟨dd, rfl⟩ := int_of_trod (v := y1) (x := x1) (by simpa [Value.cells, c3] using hg 1 _ rfl)
    obtain ⟨t, rfl⟩ := int_of_trod (v := y2) (x := x2) (by simpa [Value.cells, c3] using hg 2 _ rfl)
    obtain ⟨a, rfl⟩ := q32_of_trod (v := y3) (x := x3) (by simpa [Value.cells, c22] using hg 3 _ rfl)
    obtain ⟨b, rfl⟩ := q32_of_trod (v := y4) (x := x4) (by simpa [Value.cells, c22] using hg 4 _ rfl)
    obtain ⟨bs, A, c, rfl, hB⟩ := bytes_of_trod (v := y5) (x := x5) (by simpa [Value.cells, c23] using hg 5 _ rfl)
    obtain ⟨m, rfl⟩ := q64_of_trod (v := y6) (x := x6) (by simpa [Value.cells, c24] using hg 6 _ rfl)
    exact ⟨⟨k, dd, t, a, b, bs, m⟩, A, c, rfl, hB⟩
end
end Go.Proofs.Ytnngknmmokajgaa
