/- Plain: what swapRange, rotate and symMerge make of a row. -/
import Derived.Sort.LotA
namespace Go.Proofs.Ytoneofdihknnoab
open Go.Sort
section
variable {α : Type} [Inhabited α] {lt : α → α → Bool}

/-- d' is d with n places from a on and n places from b on exchanged. -/
def IsSwapR (d d' : Array α) (a b n : Nat) : Prop := d'.size = d.size ∧ ∀ k, d'[k]! = if a ≤ k ∧ k < a + n then d[k - a + b]! else if b ≤ k ∧ k < b + n then d[k - b + a]! else d[k]!
theorem isSwapR_zero (d : Array α) (a b : Nat) : IsSwapR d d a b 0 := ⟨rfl, fun k => by rw [if_neg (by omega), if_neg (by omega)]⟩
theorem isSwapR_step {d c : Array α} {a b i : Nat} (h : IsSwapR d c a b i) (hab : a + i < b) (hb : b + i < d.size) : IsSwapR d (swp c (a + i) (b + i)) a b (i + 1) := by
  obtain ⟨hs, hk⟩ := h
  refine ⟨by rw [size_swp]; exact hs, fun k => ?_⟩
  rw [swp_get c (by omega) (by omega) k, hk k, hk (a + i), hk (b + i)]
  repeat' split
  all_goals first | rfl | (exfalso; omega) | (congr 1; omega)
/-- d' is d with the places a ≤ k < m put behind m ≤ k < b. -/
def IsRot (d d' : Array α) (a m b : Nat) : Prop := d'.size = d.size ∧ ∀ k, d'[k]! = if a ≤ k ∧ k < a + (b - m) then d[k - a + m]! else if a + (b - m) ≤ k ∧ k < b then d[k - (b - m)]! else d[k]!
theorem isRot_left (d : Array α) (m b : Nat) : IsRot d d m m b := ⟨rfl, fun k => by
  by_cases h1 : m ≤ k ∧ k < m + (b - m)
  · rw [if_pos h1]; congr 1; omega
  · rw [if_neg h1, if_neg (by omega)]⟩
theorem isRot_right (d : Array α) (a m : Nat) : IsRot d d a m m := ⟨rfl, fun k => by
  rw [if_neg (by omega)]
  by_cases h1 : a + (m - m) ≤ k ∧ k < m
  · rw [if_pos h1]; congr 1; omega
  · rw [if_neg h1]⟩
theorem isRot_l {d : Array α} {s m e : Nat} (h : s = m) : IsRot d d s m e := by subst h; exact isRot_left d s e
theorem isRot_r {d : Array α} {s m e : Nat} (h : e = m) : IsRot d d s m e := by subst h; exact isRot_right d s e
theorem rot_more {c c' T : Array α} {m i j : Nat} (hs : IsSwapR c c' (m - i) m j) (hij : j < i) (him : i ≤ m) (hT : IsRot c' T (m - (i - j)) m (m + j)) : IsRot c T (m - i) m (m + j) := by
  obtain ⟨s1, k1⟩ := hs
  obtain ⟨s2, k2⟩ := hT
  refine ⟨s2.trans s1, fun k => ?_⟩
  rw [k2, k1, k1, k1]
  repeat' split
  all_goals first | rfl | (exfalso; omega) | (congr 1; omega)
theorem rot_less {c c' T : Array α} {m i j : Nat} (hs : IsSwapR c c' (m - i) (m + j - i) i) (hij : i < j) (him : i ≤ m) (hT : IsRot c' T (m - i) m (m + (j - i))) : IsRot c T (m - i) m (m + j) := by
  obtain ⟨s1, k1⟩ := hs
  obtain ⟨s2, k2⟩ := hT
  refine ⟨s2.trans s1, fun k => ?_⟩
  rw [k2, k1, k1, k1]
  repeat' split
  all_goals first | rfl | (exfalso; omega) | (congr 1; omega)
theorem rot_same {c c' : Array α} {m i : Nat} (hs : IsSwapR c c' (m - i) m i) (him : i ≤ m) : IsRot c c' (m - i) m (m + i) := by
  obtain ⟨s1, k1⟩ := hs
  refine ⟨s1, fun k => ?_⟩
  rw [k1]
  repeat' split
  all_goals first | rfl | (exfalso; omega) | (congr 1; omega)
/-- One more step of data[a]'s way up, of data[m]'s way down. -/
theorem rot_up {d c : Array α} {a k : Nat} (h : IsRot d c a (a + 1) (k + 1)) (hak : a ≤ k) (hk : k + 1 < d.size) : IsRot d (swp c k (k + 1)) a (a + 1) (k + 1 + 1) := by
  obtain ⟨s1, k1⟩ := h
  refine ⟨by rw [size_swp]; exact s1, fun q => ?_⟩
  rw [swp_get c (by omega) (by omega) q, k1 q, k1 k, k1 (k + 1)]
  repeat' split
  all_goals first | rfl | (exfalso; omega) | (congr 1; omega)
theorem rot_down {d c : Array α} {m k : Nat} (h : IsRot d c (k + 1) m (m + 1)) (hkm : k + 1 ≤ m) (hm : m < d.size) : IsRot d (swp c (k + 1) k) k m (m + 1) := by
  obtain ⟨s1, k1⟩ := h
  refine ⟨by rw [size_swp]; exact s1, fun q => ?_⟩
  rw [swp_get c (by omega) (by omega) q, k1 q, k1 k, k1 (k + 1)]
  repeat' split
  all_goals first | rfl | (exfalso; omega) | (congr 1; omega)
omit [Inhabited α] in
theorem swo_le {x y z : α} (hS : SWO lt) (h1 : lt y x = false) (h2 : lt z y = false) : lt z x = false := hS.ntrans _ _ _ h2 h1
omit [Inhabited α] in
theorem swo_asymm {x y : α} (hS : SWO lt) (h : lt x y = true) : lt y x = false := by
  cases h2 : lt y x with
  | false => rfl
  | true =>
    have := hS.trans _ _ _ h h2
    rw [hS.irrefl] at this
    cases this
/-- Sorted when the four parts are. -/
theorem rot_sorted {d d1 : Array α} {a s m e b : Nat} (hr : IsRot d d1 s m e) (h1 : SortedIn lt a m d) (h2 : SortedIn lt m b d) (has : a ≤ s) (hsm : s ≤ m) (hme : m ≤ e) (heb : e ≤ b)
    (q1 : ∀ i j, a ≤ i → i < s → m ≤ j → j < b → lt d[j]! d[i]! = false) (q2 : ∀ i j, s ≤ i → i < m → m ≤ j → j < e → lt d[i]! d[j]! = false) (q3 : ∀ i j, s ≤ i → i < m → e ≤ j → j < b → lt d[j]! d[i]! = false) : SortedIn lt a b d1 := by
  intro i j hai hij hjb
  rw [hr.2 i, hr.2 j]
  repeat' split
  all_goals first
    | (exfalso; omega)
    | exact h1 _ _ (by omega) (by omega) (by omega)
    | exact h2 _ _ (by omega) (by omega) (by omega)
    | exact q1 _ _ (by omega) (by omega) (by omega) (by omega)
    | exact q2 _ _ (by omega) (by omega) (by omega) (by omega)
    | exact q3 _ _ (by omega) (by omega) (by omega) (by omega)
    | (by_cases z1 : j < s
       · exact h1 _ _ (by omega) (by omega) (by omega)
       · by_cases z2 : i < s
         · exact q1 _ _ (by omega) (by omega) (by omega) (by omega)
         · exact h2 _ _ (by omega) (by omega) (by omega))
/-- data[a] put among the sorted ones behind it. -/
theorem one_up {d d1 : Array α} {a i b : Nat} (hS : SWO lt) (hr : IsRot d d1 a (a + 1) i) (h2 : SortedIn lt (a + 1) b d) (hai : a + 1 ≤ i) (hib : i ≤ b) (c1 : a + 1 < i → lt d[i - 1]! d[a]! = true) (c2 : i < b → lt d[i]! d[a]! = false) : SortedIn lt a b d1 := by
  refine rot_sorted hr (fun i j h1 h2 h3 => by omega) h2 (Nat.le_refl _) (by omega) hai hib (fun i j h1 h2 => by omega) (fun p j g1 g2 g3 g4 => ?_) (fun p j g1 g2 g3 g4 => ?_)
  · obtain rfl : p = a := by omega
    have := swo_asymm hS (c1 (by omega))
    by_cases hj : j = i - 1
    · subst hj; exact this
    · exact swo_le hS (h2 j (i - 1) g3 (by omega) (by omega)) this
  · obtain rfl : p = a := by omega
    by_cases hj : j = i
    · subst hj; exact c2 (by omega)
    · exact swo_le hS (c2 (by omega)) (h2 i j (by omega) (by omega) g4)
/-- data[m] put among the sorted ones ahead of it. -/
theorem one_down {d d1 : Array α} {a i m : Nat} (hS : SWO lt) (hr : IsRot d d1 i m (m + 1)) (h1 : SortedIn lt a m d) (hai : a ≤ i) (him : i ≤ m) (c1 : a < i → lt d[m]! d[i - 1]! = false) (c2 : i < m → lt d[m]! d[i]! = true) : SortedIn lt a (m + 1) d1 := by
  refine rot_sorted hr h1 (fun i j h1 h2 h3 => by omega) hai him (by omega) (Nat.le_refl _) (fun p j h3 h4 h5 h6 => ?_) (fun p j h3 h4 h5 h6 => ?_) (fun p j h3 h4 h5 h6 => by omega)
  · obtain rfl : j = m := by omega
    by_cases hp : p = i - 1
    · subst hp; exact c1 (by omega)
    · exact swo_le hS (h1 p (i - 1) h3 (by omega) (by omega)) (c1 (by omega))
  · obtain rfl : j = m := by omega
    have := swo_asymm hS (c2 (by omega))
    by_cases hp : p = i
    · subst hp; exact this
    · exact swo_le hS this (h1 i p hai (by omega) h4)
/-- Behind the rotation: the four parts, sorted each; all of the left half is at most all of the right. -/
structure Halves (lt : α → α → Bool) (d1 : Array α) (a s mid e b : Nat) : Prop where
  p1 : SortedIn lt a s d1
  p2 : SortedIn lt s mid d1
  p3 : SortedIn lt mid e d1
  p4 : SortedIn lt e b d1
  le : ∀ i j, a ≤ i → i < mid → mid ≤ j → j < b → lt d1[j]! d1[i]! = false
theorem halves_of {d d1 : Array α} {a s m e b mid : Nat} (hS : SWO lt) (hr : IsRot d d1 s m e) (h1 : SortedIn lt a m d) (h2 : SortedIn lt m b d) (has : a ≤ s) (hsm : s ≤ m) (hme : m ≤ e) (heb : e ≤ b) (hmid : mid = s + (e - m))
    (c1 : a < s → e < b → lt d[e]! d[s - 1]! = false) (c2 : s < m → m < e → lt d[e - 1]! d[s]! = true) : Halves lt d1 a s mid e b := by
  have k0 : ∀ k, k < s → d1[k]! = d[k]! := fun k hk => by rw [hr.2, if_neg (by omega), if_neg (by omega)]
  have k1 : ∀ k, s ≤ k → k < mid → d1[k]! = d[k - s + m]! := fun k h3 h4 => by rw [hr.2, if_pos (by omega)]
  have k2 : ∀ k, mid ≤ k → k < e → d1[k]! = d[k - (e - m)]! := fun k h3 h4 => by rw [hr.2, if_neg (by omega), if_pos (by omega)]
  have k3 : ∀ k, e ≤ k → d1[k]! = d[k]! := fun k h3 => by rw [hr.2, if_neg (by omega), if_neg (by omega)]
  refine ⟨fun i j h3 h4 h5 => ?_, fun i j h3 h4 h5 => ?_, fun i j h3 h4 h5 => ?_, fun i j h3 h4 h5 => ?_, fun i j h3 h4 h5 h6 => ?_⟩
  · rw [k0 _ h5, k0 _ (by omega)]; exact h1 _ _ h3 h4 (by omega)
  · rw [k1 j (by omega) h5, k1 i h3 (by omega)]; exact h2 _ _ (by omega) (by omega) (by omega)
  · rw [k2 j (by omega) h5, k2 i h3 (by omega)]; exact h1 _ _ (by omega) (by omega) (by omega)
  · rw [k3 j (by omega), k3 i h3]; exact h2 _ _ (by omega) h4 h5
  · by_cases q1 : i < s
    · rw [k0 i q1]
      by_cases q2 : j < e
      · rw [k2 j h5 q2]; exact h1 _ _ h3 (by omega) (by omega)
      · rw [k3 j (by omega)]
        have hx := c1 (by omega) (by omega)
        have hy : lt d[e]! d[i]! = false := by
          by_cases hi : i = s - 1
          · subst hi; exact hx
          · exact swo_le hS (h1 i (s - 1) h3 (by omega) (by omega)) hx
        by_cases hj : j = e
        · subst hj; exact hy
        · exact swo_le hS hy (h2 e j (by omega) (by omega) h6)
    · rw [k1 i (by omega) h4]
      by_cases q2 : j < e
      · rw [k2 j h5 q2]
        have hx := swo_asymm hS (c2 (by omega) (by omega))
        have hy : lt d[s]! d[i - s + m]! = false := by
          by_cases hi : i - s + m = e - 1
          · rw [hi]; exact hx
          · exact swo_le hS (h2 (i - s + m) (e - 1) (by omega) (by omega) (by omega)) hx
        by_cases hj : j - (e - m) = s
        · rw [hj]; exact hy
        · exact swo_le hS hy (h1 s (j - (e - m)) has (by omega) (by omega))
      · rw [k3 j (by omega)]; exact h2 _ _ (by omega) (by omega) h6
theorem halves_done {d1 d2 d3 : Array α} {a s mid e b : Nat} (hH : Halves lt d1 a s mid e b) (ham : a ≤ mid) (hmb : mid ≤ b) (hb : b ≤ d1.size) (hp2 : PermIn a mid d1 d2) (hs2 : SortedIn lt a mid d2) (hp3 : PermIn mid b d2 d3) (hs3 : SortedIn lt mid b d3) : PermIn a b d1 d3 ∧ SortedIn lt a b d3 := by
  have z2 : d2.size = d1.size := hp2.1
  have l1 : ∀ i, a ≤ i → i < mid → d3[i]! = d2[i]! := fun i _ h => hp3.2.1 i (by omega)
  refine ⟨permIn_trans _ _ _ _ _ (permIn_mono _ _ _ _ _ _ (Nat.le_refl _) hmb hb hp2) (permIn_mono _ _ _ _ _ _ ham (Nat.le_refl _) (by omega) hp3), ?_⟩
  intro i j h1 h2 h3
  by_cases hj : j < mid
  · rw [l1 j (by omega) hj, l1 i h1 (by omega)]; exact hs2 i j h1 h2 hj
  · by_cases hi : i < mid
    · rw [l1 i h1 hi]
      refine permIn_all d2 d3 mid b (fun y => lt y d2[i]! = false) (by omega) hp3 (fun q hq1 hq2 => ?_) j (by omega) h3
      rw [hp2.2.1 q (by omega)]
      exact permIn_all d1 d2 a mid (fun x => lt d1[q]! x = false) (by omega) hp2 (fun p hp1 hp2' => hH.le p q hp1 hp2' hq1 hq2) i h1 hi
    · exact hs3 i j (by omega) h2 h3
/-- A part that is empty on one side is sorted. -/
theorem halves_left {d1 : Array α} {a s mid e b : Nat} (hH : Halves lt d1 a s mid e b) (h : ¬ (a < s ∧ s < mid)) (hs : a ≤ s ∧ s ≤ mid) : SortedIn lt a mid d1 := by
  by_cases h1 : s = mid
  · rw [← h1]; exact hH.p1
  · have : a = s := by omega
    rw [this]; exact hH.p2
theorem halves_right {d1 : Array α} {a s mid e b : Nat} (hH : Halves lt d1 a s mid e b) (h : ¬ (mid < e ∧ e < b)) (hs : mid ≤ e ∧ e ≤ b) : SortedIn lt mid b d1 := by
  by_cases h1 : e = b
  · rw [← h1]; exact hH.p3
  · have : mid = e := by omega
    rw [this]; exact hH.p4
/-- Parts that do not turn stay sorted. -/
theorem sorted_keep {d d' : Array α} {a b p q : Nat} (h : SortedIn lt p q d) (hk : PermIn a b d d') (hd : q ≤ a ∨ b ≤ p) : SortedIn lt p q d' := by
  intro i j h1 h2 h3
  rw [hk.2.1 i (by omega), hk.2.1 j (by omega)]
  exact h i j h1 h2 h3
/-- Sorted in blocks of n up to p. -/
def Blocks (lt : α → α → Bool) (n p : Nat) (d : Array α) : Prop := ∀ k, (k + 1) * n ≤ p → SortedIn lt (k * n) ((k + 1) * n) d
end
end Go.Proofs.Ytoneofdihknnoab
