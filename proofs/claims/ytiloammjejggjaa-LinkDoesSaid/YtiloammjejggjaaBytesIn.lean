/- A slice of bytes that came in, opened to the walk's own words. -/
import Derived.Test.YtiloammjejggjaaLawAid
import Derived.Test.YtiloammjejggjaaGround
import Derived.OpenShut
import Derived.Deep.Slices
namespace Go.Proofs.Ytiloammjejggjaa
open Go.ChangeShapes Go.WideShapes Go.ChangeAt Go.RowKit Go.Deep
theorem cell_lt {w : World} {a : Addr} {v : Value} (h : w.cell? a = some v) : a.block < w.heap.size := by
  rcases Nat.lt_or_ge a.block w.heap.size with hl | hl
  · exact hl
  · simp [World.cell?, Array.getElem?_eq_none hl] at h
section
variable {H : Type} {enc : TypeId × Value → H} {w : World} {base : Nat} {spare : Nat → Bool}
theorem q8_wf (n : Int) (h : (Lit.int .u8 n).wf = true) : Value.int .u8 n = q8 (UInt8.ofNat n.toNat) := by
  have hb := bounds_u8 h
  unfold q8
  congr 1
  simp only [UInt8.toNat_ofNat']
  omega
theorem open_q8 {r : Reach} {b0 : Nat} {v : Value} {d : DataW H} {p : List MemPlace} {held : Bool} (hv : Value.okWide Try.prog w r b0 5 v) (h : DataW.Trod enc Try.prog w base spare held 5 v d p) : ∃ a : UInt8, v = q8 a := by
  obtain ⟨n, rfl, _, _, hw⟩ := open_int Try.underlying5 hv h
  exact ⟨_, q8_wf n hw⟩
theorem open_bytes {r : Reach} {b0 : Nat} {v : Value} {d : DataW H} {p : List MemPlace} {held : Bool} (hv : Value.okWide Try.prog w r b0 33 v) (h : DataW.Trod enc Try.prog w base (fun _ => true) held 33 v d p) :
    ∃ bs, IsBytes bs v w := by
  obtain ⟨A, n, c, rfl⟩ := okWide_slice Try.underlying33 hv
  obtain ⟨fuel, hf⟩ := h
  have hc1 : Try.prog.cellsOf 5 = 1 := by kernel_rfl
  rcases open_ints Try.underlying33 Try.underlying5 hc1 hf with ⟨hcs, hx⟩ | ⟨a, len', cap', zs, hcs, _, hl, hm, hz, hx, hcell, hwz⟩
  · simp [Value.cells] at hcs
    obtain ⟨rfl, rfl, rfl⟩ := hcs
    exact ⟨[], none, 0, rfl, Bytes.nil _⟩
  · simp [Value.cells] at hcs
    obtain ⟨rfl, rfl, rfl⟩ := hcs
    simp only [if_true] at hz
    have hlen : ((zs.take n).map fun n => UInt8.ofNat n.toNat).length = n := by simp; omega
    refine ⟨(zs.take n).map fun n => UInt8.ofNat n.toNat, some a, c, by rw [hlen], ?_, by rw [hlen]; exact hl, hm⟩
    intro h0
    rw [cellsOf_length, hlen] at h0
    obtain ⟨ab, ao, spot⟩ := a
    have hspot : spot = none := by simpa [Addr.add] using World.cell?_spot (hcell 0 (by omega))
    subst hspot
    refine ⟨ab, ao, rfl, ?_, ?_⟩
    · have := hcell 0 (by omega)
      exact cell_lt this
    · intro j u hu
      have hj : j < n := by
        rcases Nat.lt_or_ge j n with hj | hj
        · exact hj
        · rw [List.getElem?_eq_none (by rw [cellsOf_length, hlen]; exact hj)] at hu; cases hu
      have hcj := hcell j (by omega)
      rw [Addr.add_lit] at hcj
      rw [hcj]
      have e : zs[j]? = some (zs[j]'(by omega)) := List.getElem?_eq_getElem (by omega)
      rw [List.getD_eq_getElem?_getD, e]
      unfold cellsOf at hu
      rw [List.getElem?_map, List.getElem?_map, List.getElem?_take_of_lt hj, e] at hu
      simp only [Option.map_some, Option.some.injEq] at hu
      rw [← hu, Option.getD_some, q8_wf _ (hwz _ (List.getElem_mem _))]
theorem bytes_of_trod {held : Bool} {fuel : Nat} {v : Value} {x : DataW H × List MemPlace} (hf : DataW.trod enc Try.prog w base (fun _ => true) held fuel 33 [v] = some x) : ∃ bs, IsBytes bs v w := by
  have hc1 : Try.prog.cellsOf 5 = 1 := by kernel_rfl
  rcases open_ints Try.underlying33 Try.underlying5 hc1 hf with ⟨hcs, hx⟩ | ⟨a, len', cap', zs, hcs, _, hl, hm, hz, hx, hcell, hwz⟩
  · simp at hcs
    subst hcs
    exact ⟨[], none, 0, rfl, Bytes.nil _⟩
  · simp at hcs
    subst hcs
    simp only [if_true] at hz
    have hlen : ((zs.take len').map fun n => UInt8.ofNat n.toNat).length = len' := by simp; omega
    refine ⟨(zs.take len').map fun n => UInt8.ofNat n.toNat, some a, cap', by rw [hlen], ?_, by rw [hlen]; exact hl, hm⟩
    intro h0
    rw [cellsOf_length, hlen] at h0
    obtain ⟨ab, ao, spot⟩ := a
    have hspot : spot = none := by simpa [Addr.add] using World.cell?_spot (hcell 0 (by omega))
    subst hspot
    refine ⟨ab, ao, rfl, ?_, ?_⟩
    · have := hcell 0 (by omega)
      exact cell_lt this
    · intro j u hu
      have hj : j < len' := by
        rcases Nat.lt_or_ge j len' with hj | hj
        · exact hj
        · rw [List.getElem?_eq_none (by rw [cellsOf_length, hlen]; exact hj)] at hu; cases hu
      have hcj := hcell j (by omega)
      rw [Addr.add_lit] at hcj
      rw [hcj]
      have e : zs[j]? = some (zs[j]'(by omega)) := List.getElem?_eq_getElem (by omega)
      rw [List.getD_eq_getElem?_getD, e]
      unfold cellsOf at hu
      rw [List.getElem?_map, List.getElem?_map, List.getElem?_take_of_lt hj, e] at hu
      simp only [Option.map_some, Option.some.injEq] at hu
      rw [← hu, Option.getD_some, q8_wf _ (hwz _ (List.getElem_mem _))]
theorem int_of_trod {held : Bool} {fuel : Nat} {v : Value} {x : DataW H × List MemPlace} (hf : DataW.trod enc Try.prog w base spare held fuel 3 [v] = some x) : ∃ n : Int, v = .int .i64 n := by
  obtain ⟨n, e, _, _⟩ := DataW.trod_int Try.underlying3 hf
  exact ⟨n, by simpa using e⟩
end
end Go.Proofs.Ytiloammjejggjaa
