/- Package odo: Sort, Middle. -/
import Derived.Test.YtoneofdihknnoabOdoSort
set_option linter.unusedSimpArgs false
set_option linter.unusedVariables false
namespace Go.Proofs.Ytoneofdihknnoab
open Go.RowKit Go.Shelf Go.Sort Ieee

/-- What the package's Sort does with these readings, at any place where they lie. -/
def Sorts (d s : Array UInt64) : Prop := s.size = d.size ∧ ∀ (b off c : Nat) (w : World), (∀ j, j < d.size → w.cell? ⟨b, off + j, none⟩ = some (encF d[j]!)) → Calls Try.prog 6 #[.slice (some ⟨b, off, none⟩) d.size c] w fun e w' => ∃ v, e = .returned v ∧ FRow w.heap.size s v w' ∧ Below w.heap.size w w'
theorem sort_small (d : Array UInt64) (h0 : 0 < d.size) (h1 : d.size < 20) (hs : (isort d).size = d.size) : Sorts d (isort d) := by
  refine ⟨hs, ?_⟩
  intro b off c w hc
  have hcl := fun W (h : W = w) => clone_k b off c d w h0 (by omega) hc
  obtain ⟨n, hn⟩ : ∃ n, d.size = n := ⟨_, rfl⟩
  have hn' := Lib.hid hn
  rw [hn]
  rw [hn] at hcl
  clear hc
  go_enter Try.func6, Try.ntmps6
  go_wp2_with (first
    | (go_at_call 16; (with_reducible refine (hcl w rfl).mono ?_); rintro e w1 ⟨v, rfl, ⟨g, cap, rfl, hg, hH, hcap, hlt, hm⟩, hb1⟩; have hst := sortstable_small_k g cap n d w1 hn'.out hH (by omega); clear hn; rw [hn'.out])
    | (go_at_call 17; (with_reducible refine hst.mono ?_); rintro e w2 ⟨rfl, q, rfl⟩))
  go_ret
  have hi : isort d = Sort.insertionSort (ltOf cfF) d 0 n := by unfold isort; rw [hn'.out]
  refine ⟨.slice (some ⟨g, 0, none⟩) n cap, rfl, ⟨g, cap, by rw [hs, hn'.out], hg, ?_, by rw [hs]; exact hcap, ?_, hm⟩, ?_⟩
  · rw [hi] at hs ⊢
    exact holds_putRow encF w1 g 0 d _ hH hs
  · show g < (putRow encF w1 g 0 _).heap.size
    rw [size_putRow]; exact hlt
  · exact below_aheadN (below_putRow hb1 encF g 0 _ hg) q
/-- What Middle answers. -/
def numsF (s : Array UInt64) : List UInt64 := s.toList.filter fun x => !isNan x.toNat
def midF (s : Array UInt64) : UInt64 × Bool := if numsF s = [] then (0, false) else ((numsF s)[((numsF s).length - 1) / 2]!, true)
theorem del_k (g cap : Nat) (d : Array UInt64) (w : World) (hH : Holds encF w g 0 d) (hd : d.size ≤ 200) (hcap : d.size ≤ cap) :
    Calls Try.prog 21 #[.slice (some ⟨g, 0, none⟩) d.size cap, .func (.func 22) #[] #[]] w fun e w' => e = .returned (.slice (some ⟨g, 0, none⟩) (numsF d).length cap) ∧ ∃ q, w' = putRow encF (Sort.ahead w q) g 0 ((numsF d) ++ List.replicate (d.size - (numsF d).length) 0).toArray := by
  have hv : ∀ W, (zeroValue 26).run Try.prog W = .ok (encF 0) W := Try.zeroValue26
  have hp : ∀ (x : UInt64) (W : World), FnGives Try.prog 22 #[] #[encF x] (.bool (isNan x.toNat)) W := fun x W => (midnan_k x.toNat W).mono fun e w' ⟨h1, h2⟩ => ⟨h1, 0, h2.symm⟩
  exact AnyE.slices_DeleteFunc laysDel encF encF_one (fun x => isNan x.toNat) 22 #[] eg_nan 0 hv g 0 cap d w (fun W x _ => hp x W) (fun _ _ _ x _ => hp x _) hH (by omega) hcap
theorem middle_k (d s : Array UInt64) (hS : Sorts d s) (hd : d.size ≤ 200) (b off c : Nat) (w : World) (hc : ∀ j, j < d.size → w.cell? ⟨b, off + j, none⟩ = some (encF d[j]!)) :
    Calls Try.prog 10 #[.slice (some ⟨b, off, none⟩) d.size c] w fun e w' => e = .returned (.tuple #[encF (midF s).1, .bool (midF s).2]) ∧ Below w.heap.size w w' := by
  obtain ⟨hs, hS⟩ := hS
  have hso := hS b off c w hc
  have hdel := fun g cap W => del_k g cap s W
  rw [hs] at hdel
  obtain ⟨p, hp⟩ : ∃ p, midF s = p := ⟨_, rfl⟩
  rw [hp]
  unfold midF at hp
  have hml : (numsF s).length ≤ 200 := by
    have : (numsF s).length ≤ s.toList.length := List.length_filter_le _ _
    simp at this
    omega
  have hml2 : (numsF s).length ≤ s.size := by
    have : (numsF s).length ≤ s.toList.length := List.length_filter_le _ _
    simpa using this
  obtain ⟨l, hl⟩ : ∃ l, numsF s = l := ⟨_, rfl⟩
  rw [hl] at hp hml hml2
  simp only [hl] at hdel
  obtain ⟨n, hn⟩ : ∃ n, d.size = n := ⟨_, rfl⟩
  rw [hn] at hso hdel hd ⊢
  have hH2 : ∀ g (w2 : World) q, Holds encF w2 g 0 s → Holds encF (putRow encF (Sort.ahead w2 q) g 0 (l ++ List.replicate (n - l.length) 0).toArray) g 0 (l ++ List.replicate (n - l.length) 0).toArray := fun g w2 q h => holds_putRow encF (Sort.ahead w2 q) g 0 s _ h (by simp; omega)
  clear hS hc hl
  have hsn : s.size = n := by omega
  clear hn hs
  by_cases h0 : l = []
  · rw [if_pos h0] at hp
    subst h0
    subst hp
    have hsn := Lib.hid hsn
    go_enter Try.func10, Try.ntmps10
    go_wp2_with (first
      | (go_at_call 6; (with_reducible refine hso.mono ?_); rintro e w1 ⟨v, rfl, ⟨g, cap, rfl, hg, hH, hcap, hlt, hm⟩, hb1⟩; have hdl := hdel g cap w1 hH hd (by omega); rw [hsn.out])
      | (go_at_call 21; (with_reducible refine hdl.mono ?_); rintro e w2 ⟨rfl, q, rfl⟩))
    go_ret2
    exact ⟨rfl, below_putRow (below_aheadN hb1 q) encF g 0 _ hg⟩
  · rw [if_neg h0] at hp
    subst hp
    have hl0 : 0 < l.length := List.length_pos_iff.2 h0
    have hsn := Lib.hid hsn
    obtain ⟨m, hm'⟩ : ∃ m, l.length = m := ⟨_, rfl⟩
    obtain ⟨x, hx⟩ : ∃ x : UInt64, l[(m - 1) / 2]! = x := ⟨_, rfl⟩
    have hcell : ∀ g (w2 : World) q, Holds encF w2 g 0 s → (putRow encF (Sort.ahead w2 q) g 0 (l ++ List.replicate (n - l.length) 0).toArray).cell? ⟨g, (m - 1) / 2, none⟩ = some (encF x) := fun g w2 q h => by
      rw [← hx]
      have h1 := hH2 g w2 q h ((m - 1) / 2) (by simp; omega)
      rw [Nat.zero_add] at h1
      rw [h1.1]
      congr 2
      have hlt : (m - 1) / 2 < l.length := by omega
      have hlt2 : (m - 1) / 2 < (l ++ List.replicate (n - l.length) 0).toArray.size := by simp; omega
      simp [List.getElem?_append_left hlt]
    rw [hm'] at hcell ⊢
    rw [hm'] at hdel hl0 hml hml2
    have hrow : ∀ g (w1 : World) q, w.heap.size ≤ g → Below w.heap.size w w1 → Below w.heap.size w (putRow encF (Sort.ahead w1 q) g 0 (l ++ List.replicate (n - m) 0).toArray) := fun g w1 q hg hb => below_putRow (below_aheadN hb q) encF g 0 _ hg
    rw [hx]
    generalize (l ++ List.replicate (n - m) 0).toArray = R at *
    clear hm' h0 hH2 hx
    go_enter Try.func10, Try.ntmps10
    go_wp2_with (first
      | (go_at_call 6; (with_reducible refine hso.mono ?_); rintro e w1 ⟨v, rfl, ⟨g, cap, rfl, hg, hH, hcap, hlt, hm⟩, hb1⟩; have hdl := hdel g cap w1 hH hd (by omega); have hce := fun q => hcell g w1 q hH; rw [hsn.out])
      | (go_at_call 21; (with_reducible refine hdl.mono ?_); rintro e w2 ⟨rfl, q, rfl⟩))
    go_ret2
    exact ⟨rfl, hrow g w1 q hg hb1⟩
end Go.Proofs.Ytoneofdihknnoab
