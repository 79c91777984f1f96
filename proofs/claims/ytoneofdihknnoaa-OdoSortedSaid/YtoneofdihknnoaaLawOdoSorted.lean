/- OdoSorted: what is sorted is in order, and has just the readings that there were. -/
import Derived.Test.YtoneofdihknnoaaOdoNone
import Derived.Deep.QuietTactic
import Derived.BigQuiet
set_option linter.unusedSimpArgs false
set_option linter.unusedVariables false
namespace Go.Proofs.Ytoneofdihknnoaa
open Go.ChangeShapes Go.WideShapes Go.ChangeAt Go.RowKit Go.Shelf Go.Sort Ieee

/-- How many of the first k stand where x does. -/
def cntF (d : Array UInt64) (x : Nat) (k : Nat) : Nat := (d.toList.take k).countP fun y => decide (placeV y.toNat = placeV x)
theorem cntF_succ {d : Array UInt64} {x k : Nat} (hk : k < d.size) : cntF d x (k + 1) = cntF d x k + (if placeV d[k]!.toNat = placeV x then 1 else 0) := by
  unfold cntF
  rw [List.take_succ_eq_append_getElem (by simpa using hk), List.countP_append]
  congr 1
  simp [List.countP_cons, hk]
theorem cntF_le (d : Array UInt64) (x k : Nat) : cntF d x k ≤ k := Nat.le_trans List.countP_le_length (List.length_take_le _ _)
theorem cntF_perm {d s : Array UInt64} {x n : Nat} (hn : d.size = n) (hp : PermIn 0 n d s) : cntF d x n = cntF s x n := by
  have h := hp.2.2
  have hz := hp.1
  subst hn
  unfold cntF
  have e1 : (s.extract 0 d.size).toList = s.toList.take d.size := by simp
  have e2 : (d.extract 0 d.size).toList = d.toList.take d.size := by simp [List.take_of_length_le]
  rw [e1, e2] at h
  exact (h.countP_eq _).symm
set_option maxHeartbeats 4000000 in
set_option maxRecDepth 100000 in
theorem odoSorted_small (A : Option Addr) (c n : Nat) (x : Nat) (w : World) (h : n = 0 ∨ 200 < n) : Calls Try.prog 8 #[.slice A n c, .float .f64 x] w fun e w' => e = .returned (.bool true) ∧ Below w.heap.size w w' := by
  rcases h with rfl | h
  · have hso := fun W => odsort0_k A c W
    go_enter Try.func8, Try.ntmps8
    go_wp2_with (first
      | (go_at_call 9; (with_reducible refine (awake4_any _).mono ?_); rintro e w1 ⟨rfl, hb1⟩)
      | (go_at_call 18; (with_reducible refine (hso _).mono ?_); rintro e w2 ⟨A1, c1, rfl, hb2⟩))
    go_loopw [9, 7, 8] (fun i a b wr => i = .int .i64 0 ∧ a = .int .i64 0 ∧ b = .int .i64 0 ∧ wr = w2) (fun _ _ _ _ => 0)
    case atStart => exact ⟨rfl, rfl, rfl, rfl⟩
    case round =>
      obtain ⟨rfl, rfl, rfl, rfl⟩ := hrel
      go_wp2_with fail
      go_ret
      exact ⟨rfl, hb1.trans (hb2.mono hb1.size)⟩
  · have hd : decide ((200 : Int) < (n : Int)) = true := decide_eq_true (by omega)
    go_enter Try.func8, Try.ntmps8
    go_wp2_with (first
      | (go_at_call 9; (with_reducible refine (awake4_any _).mono ?_); rintro e w1 ⟨rfl, hb1⟩))
    go_ret
    exact ⟨rfl, hb1⟩
set_option maxHeartbeats 8000000 in
set_option maxRecDepth 100000 in
theorem odoSorted_main (b off c n : Nat) (d : Array UInt64) (x : Nat) (w : World) (hn : d.size = n) (h0 : 0 < n) (h200 : n ≤ 200) (hbw : b < w.heap.size) (hc : ∀ j, j < d.size → w.cell? ⟨b, off + j, none⟩ = some (encF d[j]!)) (hx : x < 2 ^ 64) : Calls Try.prog 8 #[.slice (some ⟨b, off, none⟩) n c, .float .f64 x] w fun e w' => e = .returned (.bool true) ∧ Below w.heap.size w w' := by
  have hso := fun W (h : ∀ j, j < d.size → W.cell? ⟨b, off + j, none⟩ = some (encF d[j]!)) => odsort_k b off c d W (by omega) (by omega) h
  rw [hn] at hso hc
  have HC := Lib.hid hc
  have HN := Lib.hid hn
  have hd2 : decide ((200 : Int) < (n : Int)) = false := decide_eq_false (by omega)
  clear hc hn
  have hsame : ∀ (y : UInt64) W, Calls Try.prog 16 #[encF y, .float .f64 x] W fun e w' => e = .returned (.bool (decide (placeV y.toNat = placeV x))) ∧ W = w' := fun y W => odsame_k y.toNat x W y.toNat_lt hx
  have hless : ∀ (y z : UInt64) W, Calls Try.prog 14 #[encF y, encF z] W fun e w' => e = .returned (.bool (ltF y z)) ∧ W = w' := fun y z W => by
    rw [ltF_iff]
    exact odless_k y.toNat z.toNat W y.toNat_lt z.toNat_lt
  go_enter Try.func8, Try.ntmps8
  go_wp2_with (first
    | (go_at_call 9; (with_reducible refine (awake4_any _).mono ?_); rintro e w1 ⟨rfl, hb1⟩; have hs1 := hso w1 (fun j hj => (hb1.cell (p := ⟨b, off + j, none⟩) hbw).trans (HC.out j hj)); clear hso)
    | (go_at_call 18; (with_reducible refine hs1.mono ?_); rintro e w2 ⟨s, v, rfl, hp, hs, ⟨g, cap, rfl, hg, hH, hcap, hlt, hm⟩, hb2⟩; have hsz := hp.1.trans HN.out; rw [hsz]; have HSZ := Lib.hid hsz; have HP := Lib.hid hp; have HS := Lib.hid hs; clear hp hs hsz hd2))
  have hb12 : Below w.heap.size w w2 := hb1.trans (hb2.mono hb1.size)
  have HCW := Lib.hid (fun j hj => (hb12.cell (p := ⟨b, off + j, none⟩) hbw).trans (HC.out j hj) : ∀ j, j < n → w2.cell? ⟨b, off + j, none⟩ = some (encF d[j]!))
  have HH := Lib.hid hH
  clear hH hcap hm hlt hg hs1 HC
  go_loopw [9, 7, 8] (fun i a b wr => ∃ k : Nat, k ≤ n ∧ i = .int .i64 k ∧ a = .int .i64 (cntF d x k) ∧ b = .int .i64 (cntF s x k) ∧ ∃ q, wr = w2.drewN q) (fun i _ _ _ => n - (intOf i).toNat)
  case atStart => exact ⟨0, Nat.zero_le _, rfl, rfl, rfl, 0, rfl⟩
  case round =>
    obtain ⟨k, hk, rfl, rfl, rfl, q, rfl⟩ := hrel
    by_cases hlt : k < n
    · have hcl := HCW.out k hlt
      have hcs := (HH.out k (by have := HSZ.out; omega)).1
      have hcp : 0 < k → w2.cell? ⟨g, k - 1, none⟩ = some (encF s[k - 1]!) := fun h => by
        have := (HH.out (k - 1) (by have := HSZ.out; omega)).1
        rwa [Nat.zero_add] at this
      rw [Nat.zero_add] at hcs
      have S1 := Lib.hid (cntF_succ (d := d) (x := x) (k := k) (by have := HN.out; omega))
      have S2 := Lib.hid (cntF_succ (d := s) (x := x) (k := k) (by have := HSZ.out; omega))
      have hl1 := cntF_le d x k
      have hl2 := cntF_le s x k
      have hord : 0 < k → ltF s[k]! s[k - 1]! = false := fun h => HS.out (k - 1) k (Nat.zero_le _) (by omega) (by have := HN.out; omega)
      obtain ⟨xd, hxd⟩ : ∃ y, y = d[k]! := ⟨_, rfl⟩
      obtain ⟨xs, hxs⟩ : ∃ y, y = s[k]! := ⟨_, rfl⟩
      obtain ⟨xp, hxp⟩ : ∃ y, y = s[k - 1]! := ⟨_, rfl⟩
      rw [← hxd] at hcl S1
      rw [← hxs] at hcs S2 hord
      rw [← hxp] at hcp hord
      have hsl := hsame xd
      have hss := hsame xs
      have hll := hless xs xp
      clear hxd hxs hxp hsame hless
      have S1' := S1.out
      have S2' := S2.out
      clear S1 S2
      obtain ⟨b1, hb1⟩ : ∃ b1, b1 = decide (placeV xd.toNat = placeV x) := ⟨_, rfl⟩
      obtain ⟨b2, hb2⟩ : ∃ b2, b2 = decide (placeV xs.toNat = placeV x) := ⟨_, rfl⟩
      rw [← hb1] at hsl
      rw [← hb2] at hss
      have T1 : cntF d x (k + 1) = cntF d x k + (if b1 then 1 else 0) := by rw [S1', hb1]; simp
      have T2 : cntF s x (k + 1) = cntF s x k + (if b2 then 1 else 0) := by rw [S2', hb2]; simp
      clear hb1 hb2 S1' S2'
      generalize cntF d x k = na at *
      generalize cntF s x k = ns at *
      have R1 := Lib.hid T1
      have R2 := Lib.hid T2
      clear T1 T2
      generalize hwq : w2.drewN q = wq at *
      have hclq : wq.cell? ⟨b, off + k, none⟩ = some (encF xd) := by rw [← hwq]; exact hcl
      have hcsq : wq.cell? ⟨g, k, none⟩ = some (encF xs) := by rw [← hwq]; exact hcs
      have hcpq : 0 < k → wq.cell? ⟨g, k - 1, none⟩ = some (encF xp) := fun h => by rw [← hwq]; exact hcp h
      have HWQ := Lib.hid hwq
      clear hcl hcs hcp hwq
      by_cases hk0 : k = 0
      · subst hk0
        clear hcpq hord hll
        rw [Nat.add_zero] at hclq
        cases b1 <;> cases b2
        all_goals
          go_wp2_with (first
            | (go_at_call 16; (with_reducible refine (hsl _).mono ?_); rintro e w3 ⟨rfl, rfl⟩; clear hsl)
            | (go_at_call 16; (with_reducible refine (hss _).mono ?_); rintro e w3 ⟨rfl, rfl⟩; clear hss))
          go_quiet (fail)
          go_wp2_with fail
          go_roundw
          case rel => exact ⟨1, by omega, rfl, by rw [R1.out]; first | rfl | go_num, by rw [R2.out]; first | rfl | go_num, q + nq, by rw [← HWQ.out, World.drewN_drewN]⟩
          case measure => simp [intOf]; omega
      · replace hcpq := hcpq (by omega)
        replace hord := hord (by omega)
        rw [hord] at hll
        obtain ⟨kp, hkp⟩ : ∃ kp, kp = k - 1 := ⟨_, rfl⟩
        rw [← hkp] at hcpq
        have ekp : (k : Int) - 1 = (kp : Int) := by omega
        have hkpn : kp < n := by omega
        have hdk : decide ((0 : Int) < (k : Int)) = true := decide_eq_true (by omega)
        have hdk2 : decide (0 < k) = true := decide_eq_true (by omega)
        have hlq : ∀ W, Calls Try.prog 14 #[encF xs, encF xp] W fun e w' => e = .returned (.bool false) ∧ ∃ q, w' = W.drewN q := fun W => (hll W).mono fun e w' ⟨h1, h2⟩ => ⟨h1, 0, h2.symm⟩
        clear hkp hord hll hk0
        cases b1 <;> cases b2
        all_goals
          go_wp2_with (first
            | (go_at_call 16; (with_reducible refine (hsl _).mono ?_); rintro e w3 ⟨rfl, rfl⟩; clear hsl)
            | (go_at_call 16; (with_reducible refine (hss _).mono ?_); rintro e w3 ⟨rfl, rfl⟩; clear hss))
          go_quiet (first | (go_at_call 14; refine Calls.quiet_of (hlq _)))
          go_wp2_with fail
          go_roundw
          case rel => exact ⟨k + 1, by omega, by go_num, by rw [R1.out]; first | rfl | go_num, by rw [R2.out]; first | rfl | go_num, q + nq, by rw [← HWQ.out, World.drewN_drewN]⟩
          case measure => simp [intOf]; omega
    · obtain rfl : k = n := by omega
      have he := cntF_perm (x := x) HN.out HP.out
      rw [he]
      go_wp2_with fail
      go_ret
      exact ⟨rfl, below_aheadN hb12 q⟩
theorem odoSorted_walk (v : Value) (d : Array UInt64) (x : Nat) (w : World) (hv : IsFloats d v w) (hx : x < 2 ^ 64) : Calls Try.prog 8 #[v, .float .f64 x] w fun e w' => e = .returned (.bool true) ∧ Below w.heap.size w w' := by
  obtain ⟨A, c, rfl, hA⟩ := hv
  by_cases h : d.size = 0 ∨ 200 < d.size
  · exact odoSorted_small A c _ x w h
  · obtain ⟨b, off, rfl, hb, hc⟩ := hA (by omega)
    exact odoSorted_main b off c _ d x w rfl (by omega) (by omega) hb hc hx

set_option maxRecDepth 100000 in
theorem odoSorted_lifted (os : Os) (started : os.Started) (H : Type) (enc : TypeId × Value → H) :
    ReturnsInHanded {} Try.checked os 8 .any (Rows.odoSortedSpec.pre6 enc Try.prog Try.f8 Rows.odoSortedRow.domain false) (Rows.odoSortedSpec.post enc Try.prog Try.f8 false true false false) := by
  refine returnsInHanded_of_change (C := Try.checked) own started (by kernel_rfl) Try.func8
    (ChangeSpec.witness6 (enc := enc) (C := Try.checked) false ⟨#[], #[.slice none 0 0, .float .f64 0], []⟩ 8 (by kernel_rfl) (by kernel_rfl) (by kernel_rfl) (by kernel_rfl)) ?_
  intro W base args ds gs before hval0 hW hcnd _
  have hval : ∀ (j : Nat) t v, Try.f8.params[j]? = some t → args[j]? = some v → Value.okWide Try.prog W .any base t v := hval0
  have hW' := hW
  obtain ⟨p, q, hA0, hV, rfl, hfz, hnd⟩ := hW
  have hA : DataW.TrodAll enc Try.prog W 0 (fun _ => true) true Try.f8.params.toList args.toList ds p := hA0
  rw [Try.params8] at hA hval
  obtain ⟨v0, vs0, d0, ds0, p0, q0, hargs, rfl, rfl, h0, r0⟩ := trodAll_cons hA
  obtain ⟨v1, vs1, d1, ds1, p1, q1, rfl, rfl, rfl, h1, r1⟩ := trodAll_cons r0
  obtain ⟨rfl, rfl, rfl⟩ := trodAll_nil r1
  obtain rfl : args = #[v0, v1] := by cases args; simp_all
  obtain ⟨rfl, rfl⟩ := trodVars_none hV
  have k0 := h0
  have lt0 : ∀ x ∈ p0, x.block < W.heap.size := by obtain ⟨m, hm⟩ := k0; exact DataW.trod_lt m _ _ _ hm
  have k1 := h1
  have lt1 : ∀ x ∈ p1, x.block < W.heap.size := by obtain ⟨m, hm⟩ := k1; exact DataW.trod_lt m _ _ _ hm
  obtain ⟨s0, b0⟩ := open_floats (hval 0 32 v0 rfl rfl) h0
  obtain ⟨a1, rfl, w1⟩ := open_f64 (hval 1 22 v1 rfl rfl) h1
  clear hA0 hval0
  refine (odoSorted_walk v0 s0 a1 W b0 w1).mono fun e W' ⟨he, bel⟩ => ?_
  subst he
  exact ⟨_, rfl, _, _, _, [], _, [], hW', trodAll_mk1 (shut_bool Try.underlying4 _), (trodAll_cons_mk (Below.trod laidOut (by kernel_rfl) (of_decide_eq_true (by kernel_rfl)) k0 bel lt0) (trodAll_cons_mk (Below.trod laidOut (by kernel_rfl) (of_decide_eq_true (by kernel_rfl)) k1 bel lt1) trodAll_mk0)), rfl, bel.frame _, fun h => by cases h⟩

theorem odoSorted_over : Rows.odoSortedRow.holds Try.pinned (OpenSpec.ofChange Rows.odoSortedSpec) :=
  OpenClaim.holds_of_wide 8 Try.f8 rfl rfl rfl rfl rfl rfl rfl ⟨rfl, rfl, rfl, rfl, rfl⟩ rfl rfl rfl rfl rfl (by kernel_rfl) Try.func8 (by kernel_rfl)
    (of_decide_eq_true (by kernel_rfl)) (by unfold Func.isWrapper; rw [if_neg (of_decide_eq_false (by kernel_rfl))]; exact ⟨rfl, rfl⟩)
    (fun os started H enc _ => odoSorted_lifted os started H enc)

/-- THE STATEMENT. -/
theorem odoSorted_holds : Rows.OdoSortedSaid := odoSorted_over
end Go.Proofs.Ytoneofdihknnoaa
