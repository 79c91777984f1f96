/- The document's Lists of readings; its Sort of any. -/
import Derived.Test.YtoneofdihknnoabOdoRefSort
set_option linter.unusedSimpArgs false
set_option linter.unusedVariables false
namespace Go.Proofs.Ytoneofdihknnoab
open Go.RowKit Go.Shelf Go.Sort Ieee

theorem rlists_k (A A' : Option Addr) (n c c' : Nat) (xs ys : List UInt64) (w : World) (hx : xs.length = n) (hy : ys.length = n) (hn200 : n ≤ 200) (hX : RowF w A xs) (hY : RowF w A' ys) (he : ∀ j, j < n → placeV xs[j]!.toNat = placeV ys[j]!.toNat) :
    Calls Try.prog 5 #[.slice A n c, .slice A' n c'] w fun e w' => e = .returned (.bool true) ∧ Below w.heap.size w w' := by
  have HX := Lib.hid hx
  have HY := Lib.hid hy
  have HE := Lib.hid he
  have hsame : ∀ (x y : UInt64) W, Calls Try.prog 12 #[encF x, encF y] W fun e w' => e = .returned (.bool (decide (placeV x.toNat = placeV y.toNat))) ∧ Below W.heap.size W w' := fun x y W => rodsame_k x.toNat y.toNat W
  clear hx hy he
  go_enter Try.func5, Try.ntmps5
  go_wp2_with fail
  go_loopw [5] (fun i wr => ∃ k : Nat, k ≤ n ∧ i = .int .i64 k ∧ Below w.heap.size w wr) (fun i _ => n - (intOf i).toNat)
  case atStart => exact ⟨0, Nat.zero_le _, rfl, Below.refl _ _⟩
  case round =>
    obtain ⟨k, hk, rfl, hb⟩ := hrel
    by_cases hlt : k < n
    · obtain ⟨b, off, rfl, hbl, hc⟩ := hX.below hb (by rw [HX.out]; omega)
      obtain ⟨b', off', rfl, hbl', hc'⟩ := hY.below hb (by rw [HY.out]; omega)
      have h1 := hc k (by rw [HX.out]; exact hlt)
      have h2 := hc' k (by rw [HY.out]; exact hlt)
      have hs := hsame xs[k]! ys[k]!
      rw [decide_eq_true (HE.out k hlt)] at hs
      clear hc hc' hsame
      generalize xs[k]! = x at *
      generalize ys[k]! = y at *
      go_wp2_with fail
      refine wp_region_kin (by kernel_rfl) (by kernel_rfl) ?_
      repeat (go_big_quiet_step ((go_at_call 12; exact kin_call (hs _))))
      refine wpQuiet_nil ?_
      intro W hW
      replace hW := kin_out hW
      go_wp2
      go_roundw
      case rel => exact ⟨k + 1, by omega, by go_num, hb.trans (hW.mono hb.size)⟩
      case measure => simp [intOf]; omega
    · obtain rfl : k = n := by omega
      go_wp2_with fail
      go_ret
      exact ⟨rfl, hb⟩
theorem rsort0_k (A : Option Addr) (c : Nat) (w : World) :
    Calls Try.prog 7 #[.slice A 0 c] w fun e w' => e = .returned (.slice none 0 0) ∧ Below w.heap.size w w' := by
  go_enter Try.func7, Try.ntmps7
  go_wp2_with fail
  go_loopw [4, 3] (fun i v wr => i = .int .i64 0 ∧ v = .slice none 0 0 ∧ wr = w) (fun _ _ _ => 0)
  case atStart => exact ⟨rfl, rfl, rfl⟩
  case round =>
    obtain ⟨rfl, rfl, rfl⟩ := hrel
    go_wp2_with fail
    go_ret
    exact ⟨rfl, Below.refl _ _⟩
theorem rsort_k (A : Option Addr) (c n : Nat) (ys : List UInt64) (w : World) (hn : ys.length = n) (hn200 : n ≤ 200) (hY : RowF w A ys) :
    Calls Try.prog 7 #[.slice A n c] w fun e w' => ∃ A2 c2 zs, e = .returned (.slice A2 n c2) ∧ zs.length = n ∧ zs.Perm ys ∧ Asc zs ∧ OwnF w' w.heap.size A2 c2 zs ∧ Below w.heap.size w w' := by
  by_cases h0 : n = 0
  · subst h0
    have hy : ys = [] := List.eq_nil_of_length_eq_zero hn
    subst hy
    exact (rsort0_k A c w).mono fun e w' ⟨he, hb⟩ => ⟨none, 0, [], he, rfl, List.Perm.refl _, List.Pairwise.nil, OwnF.nil _ _, hb⟩
  · obtain ⟨b, off, rfl, hbl, hc⟩ := hY (by omega)
    exact rsort_main b off c n ys w hn hn200 hbl (by rw [← hn]; exact hc)
/-- Two sorted lists of the same readings stand at the same places. -/
theorem asc_same {s t : List UInt64} (hs : Asc s) (ht : Asc t) (hp : s.Perm t) : s.map (fun x => placeV x.toNat) = t.map (fun x => placeV x.toNat) := by
  refine List.Perm.eq_of_pairwise (le := fun a b : Int => a ≤ b) (fun a b _ _ h1 h2 => Int.le_antisymm h1 h2) ?_ ?_ (hp.map _)
  · exact List.pairwise_map.2 hs
  · exact List.pairwise_map.2 ht
theorem same_at {s t : List UInt64} (h : s.map (fun x => placeV x.toNat) = t.map (fun x => placeV x.toNat)) {j : Nat} (hj : j < s.length) : placeV s[j]!.toNat = placeV t[j]!.toNat := by
  have hl : s.length = t.length := by have := congrArg List.length h; simpa using this
  have := congrArg (fun l => l[j]?) h
  simp only [List.getElem?_map] at this
  rw [List.getElem?_eq_getElem hj, List.getElem?_eq_getElem (by omega : j < t.length)] at this
  simp only [Option.map_some, Option.some.injEq] at this
  rw [getElem!_pos s j hj, getElem!_pos t j (by omega)]
  exact this
/-- The package's Sort, in the same words. -/
theorem psort_k (A : Option Addr) (c n : Nat) (ys : List UInt64) (w : World) (hn : ys.length = n) (hn200 : n ≤ 200) (hY : RowF w A ys) :
    Calls Try.prog 6 #[.slice A n c] w fun e w' => ∃ A2 c2 zs, e = .returned (.slice A2 n c2) ∧ zs.length = n ∧ zs.Perm ys ∧ Asc zs ∧ RowF w' A2 zs ∧ (0 < n → ∃ g, A2 = some ⟨g, 0, none⟩ ∧ w.heap.size ≤ g ∧ Holds encF w' g 0 zs.toArray ∧ n ≤ c2 ∧ c2 ≤ maxLen) ∧ Below w.heap.size w w' := by
  by_cases h0 : n = 0
  · subst h0
    have hy : ys = [] := List.eq_nil_of_length_eq_zero hn
    subst hy
    refine (odsort0_k A c w).mono ?_
    rintro e w' ⟨A', c', he, hb⟩
    exact ⟨A', c', [], he, rfl, List.Perm.refl _, List.Pairwise.nil, fun h => absurd h (by simp), fun h => absurd h (by omega), hb⟩
  · obtain ⟨b, off, rfl, hbl, hc⟩ := hY (by omega)
    have hz : ys.toArray.size = n := by simpa using hn
    have := odsort_k b off c ys.toArray w (by omega) (by omega) (fun j hj => by
      rw [hc j (by simpa using hj)]
      simp)
    rw [hz] at this
    refine this.mono ?_
    rintro e w' ⟨s, v, rfl, hp, hs, ⟨g, cap, rfl, hg, hH, hcap, hlt, hm⟩, hb⟩
    have hsz : s.size = n := hp.1.trans hz
    refine ⟨some ⟨g, 0, none⟩, cap, s.toList, by rw [hsz], by simpa using hsz, ?_, ?_, fun _ => ⟨g, 0, rfl, hlt, fun j hj => ?_⟩, fun _ => ⟨g, rfl, hg, hH, by omega, hm⟩, hb⟩
    · have h := hp.2.2
      have e1 : (s.extract 0 n).toList = s.toList := by simp [← hsz]
      have e2 : (ys.toArray.extract 0 n).toList = ys := by simp [← hn]
      rw [e1, e2] at h
      exact h
    · refine List.pairwise_iff_getElem.2 fun i j hi hj hij => ?_
      have := hs i j (Nat.zero_le _) hij (by simp at hj; omega)
      rw [ltF_iff] at this
      have h2 := of_decide_eq_false this
      rw [getElem!_pos s i (by simpa using hi), getElem!_pos s j (by simpa using hj)] at h2
      simp only [Array.getElem_toList]
      omega
    · have hjs : j < s.size := by simpa using hj
      have := (hH j hjs).1
      rw [this, getElem!_pos s j hjs, getElem!_pos s.toList j hj]
      simp
end Go.Proofs.Ytoneofdihknnoab
