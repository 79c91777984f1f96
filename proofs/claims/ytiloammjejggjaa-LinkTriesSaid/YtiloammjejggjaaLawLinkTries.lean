/- LinkTries: whatever is called, a body is told so many times at most. -/
import Derived.Test.YtiloammjejggjaaLinkDone
import Derived.Test.YtiloammjejggjaaLinkOpsIn
import Derived.Test.YtiloammjejggjaaLinkWays
import Derived.Test.YtiloammjejggjaaLawAid
import Derived.Deep.QuietTactic
import Derived.BigQuiet
set_option linter.unusedSimpArgs false
set_option linter.unusedVariables false
namespace Go.Proofs.Ytiloammjejggjaa
open Go.ChangeShapes Go.WideShapes Go.ChangeAt Go.RowKit
open Go.ChangeMaps (open_string shut_string)

def toOp (x : Wt) : OpL := ⟨x.t, x.due, x.tries, x.body⟩
theorem told_start {most t : Int} {body : List UInt8} (h0 : mayL ⟨10, most, 1000, 0, []⟩ = true) (he : sentE ⟨10, most, 1000, 0, []⟩ t 0 body = 0) : Told most body (sentL ⟨10, most, 1000, 0, []⟩ t 0 body) 0 := by
  have hm := mayL_head h0
  simp only at hm
  unfold sentL
  rw [if_pos he]
  refine ⟨sent_may he, rfl, ?_, ?_, by omega, Int.le_refl _⟩
  · exact Nat.le_trans (List.length_filter_le _ _) (by simp [insW])
  · intro x hx _
    have : x = ⟨t, 0 + 10, 0, body⟩ := by simpa [insW] using hx
    rw [this]
    exact Int.le_refl _
theorem count_succ {bss : List (List UInt8)} {j : Nat} {p body : List UInt8} (h : bss[j]? = some p) : (bss.take (j + 1)).count body = (bss.take j).count body + if p = body then 1 else 0 := by
  obtain ⟨hj, rfl⟩ := List.getElem?_eq_some_iff.1 h
  rw [List.take_succ_eq_append_getElem hj, List.count_append]
  by_cases hb : bss[j] = body <;> simp [hb, List.count_cons]
theorem count_le (bss : List (List UInt8)) (j : Nat) (body : List UInt8) : (bss.take j).count body ≤ bss.count body := (List.take_sublist j bss).count_le body
theorem PartsT.get {w : World} {base : Nat} {A : Option Addr} {q c : Nat} {bss : List (List UInt8)} (h : PartsT w base (.slice A q c) bss) : bss.length = q ∧ ∀ j, j < q → ∃ p b off Ax cx, bss[j]? = some p ∧ A = some ⟨b, off, none⟩ ∧ b < w.heap.size ∧ w.cell? ⟨b, off + j, none⟩ = some (.slice Ax p.length cx) ∧ Bytes w Ax cx p := by
  obtain ⟨A', c', vs, e, hrow, hvl, hvb, _⟩ := h.is
  simp only [Value.slice.injEq] at e
  obtain ⟨rfl, rfl, rfl⟩ := e
  refine ⟨rfl, fun j hj => ?_⟩
  have hz : vs[j]? = some (vs[j]'(by omega)) := List.getElem?_eq_getElem _
  have hp : bss[j]? = some bss[j] := List.getElem?_eq_getElem _
  obtain ⟨b, off, rfl, hlt, hcz⟩ := hrow.at_ hz
  obtain ⟨Ax, cx, hv, hBx⟩ := hvb j _ _ hp hz
  rw [hv] at hcz
  exact ⟨bss[j], b, off, Ax, cx, hp, rfl, hlt, hcz, hBx⟩

set_option maxRecDepth 100000 in
set_option maxHeartbeats 8000000 in
theorem linkTries_early (most : Int) (Ao : Option Addr) (n co : Nat) (Ab : Option Addr) (nb cb : Nat) (t : Int) (w : World) (he : mayL ⟨10, most, 1000, 0, []⟩ = false ∨ (mayL ⟨10, most, 1000, 0, []⟩ = true ∧ ¬ (n ≤ 200 ∧ 1 ≤ nb ∧ nb ≤ 1023))) :
    Calls Try.prog 6 #[.int .i64 most, .slice Ao n co, .slice Ab nb cb, .int .i64 t] w fun e w' => e = .returned (.bool true) ∧ Below w.heap.size w w' := by
  have ha := fun W => lknew_k 10 most 1000 0 W
  unfold RetL newL newE at ha
  rcases he with h0 | ⟨h0, he⟩
  · rw [h0] at ha
    simp only [Bool.false_eq_true, if_false, if_neg (by decide : ¬ (1 : Int) = 0)] at ha
    have ha' : ∀ W, Calls Try.prog 9 #[.int .i64 10, .int .i64 most, .int .i64 1000, .int .i64 0] W fun e w' => ∃ A c, e = .returned (.tuple #[.agg #[.int .i64 0, .int .i64 0, .int .i64 0, .int .i64 0, .slice A 0 c], .int .i64 1]) ∧ Below W.heap.size W w' := fun W => by
      refine (ha W).mono ?_
      rintro e w' ⟨v, rfl, ⟨u, rfl, A, c, xs, rfl, _⟩, hb⟩
      exact ⟨A, c, rfl, hb⟩
    clear ha h0
    go_enter Try.func6, Try.ntmps6
    go_wp2_with (first
      | (go_at_call 8; (with_reducible refine (awake12_any _).mono ?_); rintro e w1 ⟨rfl, hb1⟩; have hO : Own w w1 [] := (Own.nil w).grow hb1)
      | (go_at_call 9; (with_reducible refine (ha' _).mono ?_); rintro e w2 ⟨A2, c2, rfl, hb2⟩; replace hO := (hO.grow hb2).new0 25 #[.int .i64 0, .int .i64 0, .int .i64 0, .int .i64 0, .slice A2 0 c2]; clear ha'))
    go_ret
    exact ⟨rfl, hO.below⟩
  · rw [h0] at ha
    simp only [if_true] at ha
    have ha' : ∀ W, Calls Try.prog 9 #[.int .i64 10, .int .i64 most, .int .i64 1000, .int .i64 0] W fun e w' => ∃ A c, e = .returned (.tuple #[.agg #[.int .i64 10, .int .i64 most, .int .i64 1000, .int .i64 0, .slice A 0 c], .int .i64 0]) ∧ Below W.heap.size W w' := fun W => by
      refine (ha W).mono ?_
      rintro e w' ⟨v, rfl, ⟨u, rfl, A, c, xs, rfl, hr⟩, hb⟩
      exact ⟨A, c, rfl, hb⟩
    have hcase : decide ((200 : Int) < n) = true ∨ (decide ((200 : Int) < n) = false ∧ decide ((nb : Int) < 1) = true) ∨ (decide ((200 : Int) < n) = false ∧ decide ((nb : Int) < 1) = false ∧ decide ((1023 : Int) < nb) = true) := by
      simp
      omega
    clear ha h0 he
    rcases hcase with h1 | ⟨h1, h2⟩ | ⟨h1, h2, h3⟩
    all_goals
      go_enter Try.func6, Try.ntmps6
      go_wp2_with (first
        | (go_at_call 8; (with_reducible refine (awake12_any _).mono ?_); rintro e w1 ⟨rfl, hb1⟩; have hO : Own w w1 [] := (Own.nil w).grow hb1)
        | (go_at_call 9; (with_reducible refine (ha' _).mono ?_); rintro e w2 ⟨A2, c2, rfl, hb2⟩; replace hO := (hO.grow hb2).new0 25 #[.int .i64 10, .int .i64 most, .int .i64 1000, .int .i64 0, .slice A2 0 c2]; clear ha'))
      go_ret
      exact ⟨rfl, hO.below⟩
set_option maxRecDepth 100000 in
set_option maxHeartbeats 8000000 in
theorem linkTries_unsent (most : Int) (Ao : Option Addr) (n co : Nat) (Ab : Option Addr) (nb cb : Nat) (body : List UInt8) (t : Int) (w : World) (h0 : mayL ⟨10, most, 1000, 0, []⟩ = true) (hn : n ≤ 200) (h1 : 1 ≤ nb) (h2 : nb ≤ 1023) (hb : IsBytes body (.slice Ab nb cb) w) (ht1 : -9223372036854775808 ≤ t) (ht2 : t ≤ 9223372036854775807) (he : sentE ⟨10, most, 1000, 0, []⟩ t 0 body ≠ 0) :
    Calls Try.prog 6 #[.int .i64 most, .slice Ao n co, .slice Ab nb cb, .int .i64 t] w fun e w' => e = .returned (.bool true) ∧ Below w.heap.size w w' := by
  have ha : ∀ W, Calls Try.prog 9 #[.int .i64 10, .int .i64 most, .int .i64 1000, .int .i64 0] W fun e w' => ∃ A c, e = .returned (.tuple #[.agg #[.int .i64 10, .int .i64 most, .int .i64 1000, .int .i64 0, .slice A 0 c], .int .i64 0]) ∧ IsWaits [] (.slice A 0 c) w' ∧ Below W.heap.size W w' := fun W => by
    have ha := lknew_k 10 most 1000 0 W
    unfold RetL newL newE at ha
    rw [h0] at ha
    simp only [if_true] at ha
    refine ha.mono ?_
    rintro e w' ⟨v, rfl, ⟨u, rfl, hN⟩, hb⟩
    have hi := hN.is
    obtain ⟨A, c, xs, rfl, hr⟩ := hN
    exact ⟨A, c, rfl, hi, hb⟩
  have hs : ∀ W u, IsWaits [] u W → Below w.heap.size w W → Calls Try.prog 16 #[.agg #[.int .i64 10, .int .i64 most, .int .i64 1000, .int .i64 0, u], .int .i64 t, .int .i64 0, .slice Ab nb cb] W fun e w' => ∃ A c, e = .returned (.tuple #[.agg #[.int .i64 0, .int .i64 0, .int .i64 0, .int .i64 0, .slice A 0 c], .int .i64 (sentE ⟨10, most, 1000, 0, []⟩ t 0 body)]) ∧ Below W.heap.size W w' := fun W u hu hw => by
    refine (lksent_u ⟨10, most, 1000, 0, []⟩ u t 0 (.slice Ab nb cb) body W hu (hb.grow hw) ht1 ht2).mono ?_
    rintro e w' ⟨v, rfl, hv, hb⟩
    unfold sentL at hv
    rw [if_neg he] at hv
    obtain ⟨u', rfl, A, c, xs, rfl, hr⟩ := hv
    exact ⟨A, c, rfl, hb⟩
  have d1 : decide ((200 : Int) < n) = false := by simp; omega
  have d2 : decide ((nb : Int) < 1) = false := by simp; omega
  have d3 : decide ((1023 : Int) < nb) = false := by simp; omega
  generalize sentE ⟨10, most, 1000, 0, []⟩ t 0 body = er at *
  have d4 : decide (er = 0) = false := decide_eq_false he
  clear h0 hb
  go_enter Try.func6, Try.ntmps6
  go_wp2_with (first
    | (go_at_call 8; (with_reducible refine (awake12_any _).mono ?_); rintro e w1 ⟨rfl, hb1⟩; have hO : Own w w1 [] := (Own.nil w).grow hb1)
    | (go_at_call 9; (with_reducible refine (ha _).mono ?_); rintro e w2 ⟨A2, c2, rfl, hu2, hb2⟩; replace hO := (hO.grow hb2).new0 25 #[.int .i64 10, .int .i64 most, .int .i64 1000, .int .i64 0, .slice A2 0 c2]; replace hu2 := hu2.grow ((Below.refl _ _).alloc (Nat.le_refl _) (.cells #[.int .i64 10, .int .i64 most, .int .i64 1000, .int .i64 0, .slice A2 0 c2] 25)); clear ha)
    | ((with_reducible refine own_loadg0 hO ?_ _ rfl rfl _ Try.underlying25 rfl (by kernel_rfl) ?_); (· first | rfl | (simp [Region.wanted, yielded]; done)))
    | (go_at_call 16; (with_reducible refine (hs _ _ hu2 hO.below).mono ?_); rintro e w3 ⟨A3, c3, rfl, hb3⟩; replace hO := hO.grow hb3; clear hs hu2)
    | ((with_reducible refine own_row0 #[.int .i64 0, .int .i64 0, .int .i64 0, .int .i64 0, .slice A3 0 c3] hO rfl _ _ rfl rfl rfl (by kernel_rfl) rfl ?_ ?_); (· (simp [Value.oneCell']; done)); intro wR hOR hszR hkR; replace hO := hOR; clear hOR hszR hkR; have hcl := hO.b0.cell)
    )
  go_ret
  exact ⟨rfl, hO.below⟩
/-- The link that is made first. -/
def tries0 (most : Int) : Lk := ⟨10, most, 1000, 0, []⟩
set_option maxRecDepth 100000 in
set_option maxHeartbeats 16000000 in
theorem linkTries_main (most : Int) (A0 : Option Addr) (n c0 : Nat) (xs : List (Wt × Value)) (ws : List Wt) (Ab : Option Addr) (nb cb : Nat) (body : List UInt8) (t : Int) (w : World) (hx : xs.map (·.1) = ws) (hn0 : ws.length = n) (hbd : ∀ x ∈ ws, -9223372036854775808 ≤ x.due ∧ x.due ≤ 9223372036854775807) (hW : WaitsAt w A0 xs) (h0 : mayL ⟨10, most, 1000, 0, []⟩ = true) (hn : n ≤ 200) (h1 : 1 ≤ nb) (h2 : nb ≤ 1023) (hnb : body.length = nb) (hB : Bytes w Ab cb body) (ht1 : -9223372036854775808 ≤ t) (ht2 : t ≤ 9223372036854775807) (he : sentE ⟨10, most, 1000, 0, []⟩ t 0 body = 0) :
    Calls Try.prog 6 #[.int .i64 most, .slice A0 n c0, .slice Ab nb cb, .int .i64 t] w fun e w' => e = .returned (.bool true) ∧ Below w.heap.size w w' := by
  have hIB : IsBytes body (.slice Ab nb cb) w := ⟨Ab, cb, by rw [hnb], hB⟩
  have ha : ∀ W, Calls Try.prog 9 #[.int .i64 10, .int .i64 most, .int .i64 1000, .int .i64 0] W fun e w' => ∃ A c, e = .returned (.tuple #[.agg #[.int .i64 10, .int .i64 most, .int .i64 1000, .int .i64 0, .slice A 0 c], .int .i64 0]) ∧ IsWaits [] (.slice A 0 c) w' ∧ Below W.heap.size W w' := fun W => by
    have ha := lknew_k 10 most 1000 0 W
    unfold RetL newL newE at ha
    rw [h0] at ha
    simp only [if_true] at ha
    refine ha.mono ?_
    rintro e w' ⟨v, rfl, ⟨u, rfl, hN⟩, hb⟩
    have hi := hN.is
    obtain ⟨A, c, xs, rfl, hr⟩ := hN
    exact ⟨A, c, rfl, hi, hb⟩
  have hT0 := told_start h0 he
  have hs : ∀ W u, IsWaits [] u W → Below w.heap.size w W → Calls Try.prog 16 #[.agg #[.int .i64 10, .int .i64 most, .int .i64 1000, .int .i64 0, u], .int .i64 t, .int .i64 0, .slice Ab nb cb] W (Made (sentL ⟨10, most, 1000, 0, []⟩ t 0 body).period (sentL ⟨10, most, 1000, 0, []⟩ t 0 body).most (sentL ⟨10, most, 1000, 0, []⟩ t 0 body).quiet (sentL ⟨10, most, 1000, 0, []⟩ t 0 body).heard 0 (sentL ⟨10, most, 1000, 0, []⟩ t 0 body).waits W) := fun W u hu hw => by
    have := (lksent_u ⟨10, most, 1000, 0, []⟩ u t 0 (.slice Ab nb cb) body W hu (hIB.grow hw) ht1 ht2).mono fun e w' h => h.made
    rw [he] at this
    exact this
  have hm20 := mayL_head h0
  simp only at hm20
  have hm1 : 0 ≤ most := hm20.2.2.2.2.1
  have hm2 : most ≤ 20 := hm20.2.2.2.2.2.1
  clear hm20 h0 he
  obtain ⟨l1, hl1⟩ : ∃ l1, l1 = sentL ⟨10, most, 1000, 0, []⟩ t 0 body := ⟨_, rfl⟩
  rw [← hl1] at hT0 hs
  clear hl1
  have d1 : decide ((200 : Int) < n) = false := by simp; omega
  have d2 : decide ((nb : Int) < 1) = false := by simp; omega
  have d3 : decide ((1023 : Int) < nb) = false := by simp; omega
  have HN := Lib.hid hn0
  have HX := Lib.hid hx
  have HNB := Lib.hid hnb
  clear hn0 hx hnb
  go_enter Try.func6, Try.ntmps6
  go_wp2_with (first
    | (go_at_call 8; (with_reducible refine (awake12_any _).mono ?_); rintro e w1 ⟨rfl, hb1⟩; have hO : Own w w1 [] := (Own.nil w).grow hb1)
    | (go_at_call 9; (with_reducible refine (ha _).mono ?_); rintro e w2 ⟨A2, c2, rfl, hu2, hb2⟩; replace hO := (hO.grow hb2).new0 25 #[.int .i64 10, .int .i64 most, .int .i64 1000, .int .i64 0, .slice A2 0 c2]; replace hu2 := hu2.grow ((Below.refl _ _).alloc (Nat.le_refl _) (.cells #[.int .i64 10, .int .i64 most, .int .i64 1000, .int .i64 0, .slice A2 0 c2] 25)); clear ha)
    | ((with_reducible refine own_loadg0 hO ?_ _ rfl rfl _ Try.underlying25 rfl (by kernel_rfl) ?_); (· first | rfl | (simp [Region.wanted, yielded]; done)))
    | (go_at_call 16; (with_reducible refine (hs _ _ hu2 hO.below).mono ?_); rintro e w3 ⟨A3, n3, c3, rfl, hN, hb3⟩; replace hO := hO.grow hb3; clear hs hu2)
    | ((with_reducible refine own_row0 #[.int .i64 l1.period, .int .i64 l1.most, .int .i64 l1.quiet, .int .i64 l1.heard, .slice A3 n3 c3] hO rfl _ _ rfl rfl rfl (by kernel_rfl) rfl ?_ ?_); (· (simp [Value.oneCell']; done)); intro wR hOR hszR hkR; replace hN := hN.farT hO.b0 (by simp [is8]) hszR hkR; replace hO := hOR; clear hOR hszR hkR)
    )
  clear d1 d2 d3 ht1 ht2
  go_loopw [13, 14] (fun o i wr => ∃ (k : Nat) (z : Int) (l : Lk) (A : Option Addr) (m c : Nat), k ≤ n ∧ i = .int .i64 k ∧ o = .int .i64 z ∧ Told most body l z ∧ Own w wr [(w2.heap.size, 25, #[.int .i64 l.period, .int .i64 l.most, .int .i64 l.quiet, .int .i64 l.heard, .slice A m c])] ∧ IsWaitsN 0 l.waits (.slice A m c) wr) (fun _ i _ => n - (intOf i).toNat)
  case atStart => exact ⟨0, 0, l1, A3, n3, c3, Nat.zero_le _, rfl, rfl, hT0, hO, hN⟩
  case round =>
    clear hO hN hT0
    obtain ⟨k, z, l, A, m, c, hk, rfl, rfl, hT, hO, hN⟩ := hrel
    by_cases hlt : k < n
    · obtain ⟨x, Ax, cx, b, off, hwk, hxk, rfl, hbl, hc0, hc1, hc2, hc3, hBx⟩ := (hW.below hO.below).get (k := k) HX.out (by have h1 := HN.out; omega)
      by_cases h2000 : x.body.length ≤ 2000
      · have hd2 : decide ((2000 : Int) < x.body.length) = false := by simp; omega
        have hcase : (x.t = 0 ∧ x.body = body) ∨ ((x.t = 0 ∧ x.body ≠ body) ∨ x.t ≠ 0) := by
          by_cases h : x.t = 0
          · by_cases h' : x.body = body
            · exact .inl ⟨h, h'⟩
            · exact .inr (.inl ⟨h, h'⟩)
          · exact .inr (.inr h)
        obtain ⟨s1, hs1⟩ : ∃ s1, s1 = strOf x.body := ⟨_, rfl⟩
        obtain ⟨s2, hs2⟩ : ∃ s2, s2 = strOf body := ⟨_, rfl⟩
        have HS := Lib.hid (show (s1.toList = s2.toList) ↔ x.body = body by rw [hs1, hs2, strOf_toList, strOf_toList])
        have hv1 : ∀ n, (convert 33 9 (.slice Ax x.body.length cx)).run Try.prog (wr.drewN n) = .ok (.string s1) (wr.drewN n) := fun n => by
          rw [hs1]
          exact run_bytes_string (hBx.drewN n)
        have hv2 : ∀ n, (convert 33 9 (.slice Ab nb cb)).run Try.prog (wr.drewN n) = .ok (.string s2) (wr.drewN n) := fun n => by
          have := run_bytes_string ((hB.below hO.below).drewN n)
          rw [HNB.out, ← hs2] at this
          exact this
        replace hs2 := Lib.hid hs2
        clear hs1
        go_wp2_with fail
        rcases hcase with ⟨hkz, hbz⟩ | hcase
        · have hk1 : (x.t == 0) = true := by simpa using hkz
          have hk2 : decide (s1.toList = s2.toList) = true := decide_eq_true (HS.out.2 hbz)
          have hk3 : (s1.toList == s2.toList) = true := by simpa using HS.out.2 hbz
          clear hkz hbz
          go_quiet (fail)
          go_wp2_with fail
          go_roundw
          case rel => exact ⟨k + 1, z, l, A, m, c, by omega, by go_num, rfl, hT, hO.grow (below_drewN (Below.refl _ _) _), hN.grow (below_drewN (Below.refl _ _) _)⟩
          case measure => simp [intOf]; omega
        · have hno : ¬ ((toOp x).kind = 0 ∧ (toOp x).body = body) := fun h => by
            rcases hcase with h' | h'
            · exact h'.2 h.2
            · exact h' h.1
          have hkk : ((x.t == 0) = true ∧ decide (s1.toList = s2.toList) = false ∧ (s1.toList == s2.toList) = false) ∨ (x.t == 0) = false := by
            rcases hcase with h' | h'
            · exact .inl ⟨by simpa using h'.1, decide_eq_false fun h => h'.2 (HS.out.1 h), by simpa using fun h => h'.2 (HS.out.1 h)⟩
            · exact .inr (by simpa using h')
          clear hcase
          rcases hkk with ⟨hk1, hk2, hk3⟩ | hk1
          all_goals
            go_quiet (fail)
            go_wp2_with fail
            generalize hwq : World.drewN wr _ = wq
            have hbq : Below wr.heap.size wr wq := hwq ▸ below_drewN (Below.refl _ _) _
            have hOq := hO.grow hbq
            have hNq := hN.grow hbq
            have hblq : b < wq.heap.size := Nat.lt_of_lt_of_le hbl hbq.size
            have hq0 := (hbq.cell (p := ⟨b, off + k * 4, none⟩) hbl).trans hc0
            have hq1 := (hbq.cell (p := ⟨b, off + k * 4 + 1, none⟩) hbl).trans hc1
            have hq2 := (hbq.cell (p := ⟨b, off + k * 4 + 2, none⟩) hbl).trans hc2
            have hq3 := (hbq.cell (p := ⟨b, off + k * 4 + 3, none⟩) hbl).trans hc3
            have hD : ∀ W, Below wq.heap.size wq W → Calls Try.prog 24 #[.agg #[.int .i64 l.period, .int .i64 l.most, .int .i64 l.quiet, .int .i64 l.heard, .slice A m c], .agg #[.int .i64 x.t, .int .i64 x.due, .int .i64 x.tries, .slice Ax x.body.length cx]] W (DoneD (stepL l (toOp x)).period (stepL l (toOp x)).most (stepL l (toOp x)).quiet (stepL l (toOp x)).heard (stepL l (toOp x)).waits (stepO l (toOp x)) (stepB l (toOp x)) W) := fun W hb => done_k l (toOp x) A m c Ax _ cx W (hNq.grow hb) ⟨Ax, cx, rfl, (hBx.below hbq).below hb⟩ (hbd x (List.mem_of_getElem? hwk)).1 (hbd x (List.mem_of_getElem? hwk)).2
            have HZ := Lib.hid hT.pos
            have hS8 := Nat.le_trans (stepO_len l (toOp x)) (mayL_head hT.may).2.2.2.2.2.2.2
            have hT2 := hT.step hno
            have hL2 := stepB_none l (toOp x)
            clear hwq hT hno hk1 hv1 hv2 hc0 hc1 hc2 hc3 hbq hO hN hNq hbl hwk hxk hBx hd2 h2000 HS
            generalize stepL l (toOp x) = l2 at *
            generalize stepO l (toOp x) = bss at *
            generalize stepB l (toOp x) = bl at *
            generalize x.t = xt at *
            generalize x.due = xd at *
            generalize x.tries = xr at *
            generalize x.body.length = xb at *
            have HT := Lib.hid hT2
            have HL := Lib.hid hL2
            have HS8 := Lib.hid hS8
            clear hT2 hL2 hS8
            apply wp_region_lextu (Below wq.heap.size) (fun W => below_drewN (Below.refl _ _) 1) (fun _ _ _ h1 h2 => h1.trans h2) (WaysA wq.heap.size 11) (fun _ _ _ h => h.1) (fun _ _ => waysA_same _ _ _ _) (fun _ _ => True) (fun _ => trivial) (fun _ _ _ _ _ _ _ => trivial)
            case hFl =>
              intro u
              simp only [List.map, fill, Act.put, List.setIfInBounds_toArray, List.set_cons_zero, List.set_cons_succ, Nat.reduceAdd, Nat.zero_add]
              rfl
            case hm => kernel_rfl
            case hB => kernel_rfl
            case hA => kernel_rfl
            case hap => kernel_rfl
            refine LexTU.one (Is (.agg #[.int .i64 l.period, .int .i64 l.most, .int .i64 l.quiet, .int .i64 l.heard, .slice A m c])) ?_ ?_
            · (intro u w' hk hpre hd
               have hbk := hOq.b0.below hk hOq.b0.lt
               refine lookedT_want (by first | rfl | simp [Region.wanted, yielded]) ?_
               intro K hK
               exact wp_load_row 25 _ rfl _ rfl 25 _ (0, 0) _ hbk Try.underlying25 rfl (by kernel_rfl) (hK _ _ (waysA_same _ _ _ _) rfl))
            iterate 3 (
              apply LexTU.is
              · (intro u w' hk hpre hd
                 simp [WaitedU, Region.binds, Own1, Is] at hd
                 refine lookedT_want (by first | rfl | simp [Region.wanted, yielded, hd]) ?_
                 intro K hK
                 obtain ⟨hcR, _⟩ := bcell hk
                 go_wp2_with fail
                 try simp only [hd] at hK
                 refine hK _ _ ?_ rfl
                 exact waysA_same _ _ _ _)
              )
            refine LexTU.one (Is (.agg #[.int .i64 xt, .int .i64 xd, .int .i64 xr, .slice Ax xb cx])) ?_ ?_
            · (intro u w' hk hpre hd
               simp [WaitedU, Region.binds, Own1, Is] at hd
               have e0 := (hk.cell (p := ⟨b, off + k * 4, none⟩) hblq).trans hq0
               have e1 := (hk.cell (p := ⟨b, off + k * 4 + 1, none⟩) hblq).trans hq1
               have e2 := (hk.cell (p := ⟨b, off + k * 4 + 2, none⟩) hblq).trans hq2
               have e3 := (hk.cell (p := ⟨b, off + k * 4 + 3, none⟩) hblq).trans hq3
               refine lookedT_want (by first | rfl | simp [Region.wanted, yielded, hd]) ?_
               intro K hK
               go_wp2_with fail
               try simp only [hd] at hK
               exact hK _ _ (waysA_same _ _ _ _) rfl)
            refine LexTU.one (ResD l2.period l2.most l2.quiet l2.heard l2.waits bss bl) ?_ ?_
            · (intro u w' hk hpre hd
               simp [WaitedU, Region.binds, Own1, Is] at hd
               refine lookedT_want (by first | rfl | simp [Region.wanted, yielded, hd]) ?_
               intro K hK
               go_wp2_with (go_at_call 24; (with_reducible refine (hD _ hk).mono ?_); rintro e w3 ⟨A5, n5, c5, Ao5, q5, co5, rfl, hz1, hz2, hb3⟩)
               try simp only [hd] at hK
               exact hK _ _ (waysA_below hk.size hb3 (by decide)) ⟨A5, n5, c5, Ao5, q5, co5, rfl, hz1, hz2⟩)
            refine LexTU.one (ResD l2.period l2.most l2.quiet l2.heard l2.waits bss bl) ?_ ?_
            · (intro u w' hk hpre hd
               simp [WaitedU, Region.binds, Own1, Is] at hd
               refine lookedT_want (by first | rfl | simp [Region.wanted, yielded]) ?_
               intro K hK
               go_wp2_with fail
               exact hK _ _ (waysA_same _ _ _ _) hd)
            refine LexTU.one (AggD l2.period l2.most l2.quiet l2.heard l2.waits) ?_ ?_
            · (intro u w' hk hpre hd
               simp [WaitedU, Region.binds, Own1, Is] at hd
               obtain ⟨A5, n5, c5, Ao5, q5, co5, h8, hz1, hz2⟩ := hd
               refine lookedT_want (by first | rfl | simp [Region.wanted, yielded]) ?_
               intro K hK
               go_wp2_with fail
               try simp only [h8] at hK
               exact hK _ _ (waysA_same _ _ _ _) ⟨A5, n5, c5, rfl, hz1⟩)
            refine LexTU.one (PartsD bss) ?_ ?_
            · (intro u w' hk hpre hd
               simp [WaitedU, Region.binds, Own1, Is] at hd
               obtain ⟨A5, n5, c5, Ao5, q5, co5, h8, hz1, hz2⟩ := hd
               refine lookedT_want (by first | rfl | simp [Region.wanted, yielded]) ?_
               intro K hK
               go_wp2_with fail
               try simp only [h8] at hK
               exact hK _ _ (waysA_same _ _ _ _) ⟨Ao5, q5, co5, rfl, hz2⟩)
            refine LexTU.one (Is (.bool bl)) ?_ ?_
            · (intro u w' hk hpre hd
               simp [WaitedU, Region.binds, Own1, Is] at hd
               obtain ⟨A5, n5, c5, Ao5, q5, co5, h8, hz1, hz2⟩ := hd
               refine lookedT_want (by first | rfl | simp [Region.wanted, yielded]) ?_
               intro K hK
               go_wp2_with fail
               try simp only [h8] at hK
               exact hK _ _ (waysA_same _ _ _ _) rfl)
            refine LexTU.one (BoxW wq.heap.size) ?_ ?_
            · (intro u w' hk hpre hd
               clear hd
               refine lookedT_want (by first | rfl | simp [Region.wanted, yielded]) ?_
               intro K hK
               go_wp2_with fail
               exact hK _ _ (waysA_below hk.size ((Below.refl _ _).alloc (Nat.le_refl _) _) (by decide)) ⟨w'.heap.size, _, rfl, hk.size, Blk.new w' 25 #[.int .i64 0, .int .i64 0, .int .i64 0, .int .i64 0, .slice none 0 0], rfl, by simp [no8, is8]⟩)
            refine LexTU.word (FullD wq.heap.size 10 l2.period l2.most l2.quiet l2.heard l2.waits) ?_ ?_
            · (intro u w' hk hpre hd
               simp [WaitedU, Region.binds, Own1, Is] at hd
               obtain ⟨⟨g, cs, h11, hg, hb, hsz, hno⟩, ⟨A3, n3', c3, h9, hu3⟩, _⟩ := hd
               refine lookedU_want (by first | rfl | simp [Region.wanted, yielded]) ?_
               intro K hK
               have hfar : ∀ k, k ≠ g → (w'.setRow g #[.int .i64 l2.period, .int .i64 l2.most, .int .i64 l2.quiet, .int .i64 l2.heard, .slice A3 n3' c3]).heap[k]? = w'.heap[k]? := fun k hk => setRow_other w' g k _ hk
               have hno3 : no8 #[.int .i64 l2.period, .int .i64 l2.most, .int .i64 l2.quiet, .int .i64 l2.heard, .slice A3 n3' c3] = true := by simp [no8, is8]
               exact wp_store_row 25 (.tmp 15) (.tmp 97) rfl g #[.int .i64 l2.period, .int .i64 l2.most, .int .i64 l2.quiet, .int .i64 l2.heard, .slice A3 n3' c3] (by rw [← h11]; rfl) (by rw [← h9]; rfl) 25 cs hb (by kernel_rfl) hsz (by simp [Value.oneCell']) (hK undef _
                 ⟨below_row (Below.refl _ _) hg _, fun h => absurd rfl h, fun _ => .inr ⟨g, cs, #[.int .i64 l2.period, .int .i64 l2.most, .int .i64 l2.quiet, .int .i64 l2.heard, .slice A3 n3' c3], hb, hno, hb.row _, hno3, hsz.symm, by simp, hfar⟩⟩
                 ⟨g, A3, n3', c3, by rw [upd_other u undef (by decide)]; exact h11, hg, hb.row _, hu3.farT hb hno (by simp) hfar⟩))
            refine LexTU.one (PartsD bss) ?_ ?_
            · (intro u w' hk hpre hd
               simp [WaitedU, Region.binds, Own1, Is] at hd
               replace hd := hd.1
               refine lookedT_want (by first | rfl | simp [Region.wanted, yielded]) ?_
               intro K hK
               go_wp2_with fail
               exact hK _ _ (waysA_same _ _ _ _) hd)
            refine LexTU.last ?_ ?_
            · intro i' j Φ hij _ hfr hj u v W W' hΦ ht
              rcases j with _ | _ | _ | _ | _ | _ | _ | _ | _ | _ | _ | _ | _ | j
              all_goals simp only [List.nil_append, List.cons_append, List.getElem?_cons_zero, List.getElem?_cons_succ, List.getElem?_nil, Option.some.injEq, reduceCtorEq] at hj
              all_goals subst hj
              · exact own1_keep hij hΦ fun _ h => h
              · exact own1_keep hij hΦ fun _ h => h
              · exact own1_keep hij hΦ fun _ h => h
              · exact own1_keep hij hΦ fun _ h => h
              · exact own1_keep hij hΦ fun _ h => h
              · exact own1_keep hij hΦ fun _ h => ResD.keep h ht
              · exact own1_keep hij hΦ fun _ h => ResD.keep h ht
              · exact own1_keep hij hΦ fun _ h => AggD.keep h ht
              · exact own1_keep hij hΦ fun _ h => PartsD.keep h ht
              · exact own1_keep hij hΦ fun _ h => h
              · exact own1_keep hij hΦ fun _ h => BoxW.keep h ht
              · exact FullD.keep hΦ ht hij (fun e => hfr _ rfl ⟨10, .data⟩ (by simp) rfl e.symm)
              · exact own1_keep hij hΦ fun _ h => PartsD.keep h ht
            · intro u wz hk2 _ hd
              simp only [List.nil_append, List.cons_append] at hd
              obtain ⟨g, A3, n3', c3', hu10, hg, hbg, hu3⟩ := hd 11 _ rfl
              obtain ⟨Aq, q, cq, hu12, hP⟩ := hd 12 _ rfl
              have hu9 := hd 9 _ rfl
              simp only [Own1, Is] at hu9
              clear hd
              refine ⟨rfl, ?_⟩
              intro K hK
              have hO2 : Own w wz [(w2.heap.size, 25, #[.int .i64 l.period, .int .i64 l.most, .int .i64 l.quiet, .int .i64 l.heard, .slice A m c]), (g, 25, #[.int .i64 l2.period, .int .i64 l2.most, .int .i64 l2.quiet, .int .i64 l2.heard, .slice A3 n3' c3'])] := by
                have h1 := (hOq.below.trans (hk2.mono hOq.below.size))
                have h3 := hOq.b0.lt
                refine ⟨h1, fun y hy => ?_, by simp; omega⟩
                simp at hy
                rcases hy with rfl | rfl
                · exact ⟨(hOq.blk _ List.mem_cons_self).1, hOq.b0.below hk2 hOq.b0.lt⟩
                · exact ⟨by have := hOq.below.size; show w.heap.size ≤ g; omega, hbg⟩
              simp only [hu10, hu12, hu9]
              clear hu10 hu12 hu9 hq0 hq1 hq2 hq3 hD hbg
              obtain ⟨hql, _⟩ := hP.get
              have HQL := Lib.hid hql
              have hq8 : q ≤ 8 := by rw [← hql]; exact HS8.out
              clear hql
              have hO := hO2
              clear hO2
              go_wp2_with fail
              go_loopw [13, 18] (fun o i wj => ∃ (j : Nat) (y : Int), j ≤ q ∧ i = .int .i64 j ∧ o = .int .i64 y ∧ y = z + ((bss.take j).count body : Nat) ∧ Below wz.heap.size wz wj) (fun _ i _ => q - (intOf i).toNat)
              case atStart => exact ⟨0, z, Nat.zero_le _, rfl, rfl, by simp, Below.refl _ _⟩
              case round =>
                obtain ⟨j, y, hj, rfl, rfl, hy, hbj⟩ := hrel
                have hOj := hO.grow hbj
                have hclj := hOj.b0.cell
                have hcgj := hOj.b1.cell
                have hyb : 0 ≤ y ∧ y ≤ 20 := by
                  have h1 := HT.out.le
                  have h2 := count_le bss j body
                  have h3 := HZ.out
                  omega
                have HY := Lib.hid hy
                clear hy
                by_cases hjq : j < q
                · obtain ⟨p, bp, op', Ap, cp, hpj, rfl, hbp, hcp, hBp⟩ := (hP.grow hbj).get.2 j hjq
                  have HC := Lib.hid (count_succ (body := body) hpj)
                  have hyb2 : p = body → y + 1 ≤ 20 := fun e => by
                    have h1 := HT.out.le
                    have h2 := count_le bss (j + 1) body
                    have h3 := HC.out
                    have h4 := HY.out
                    rw [if_pos e] at h3
                    omega
                  obtain ⟨s3, hs3⟩ : ∃ s3, s3 = strOf p := ⟨_, rfl⟩
                  have hv1 : ∀ n, (convert 33 9 (.slice Ap p.length cp)).run Try.prog (wr.drewN n) = .ok (.string s3) (wr.drewN n) := fun n => by
                    rw [hs3]
                    exact run_bytes_string (hBp.drewN n)
                  have hv2 : ∀ n, (convert 33 9 (.slice Ab nb cb)).run Try.prog (wr.drewN n) = .ok (.string s2) (wr.drewN n) := fun n => by
                    have := run_bytes_string ((hB.below hOj.below).drewN n)
                    rw [HNB.out, ← hs2.out] at this
                    exact this
                  by_cases hpb : p = body
                  · have hk1 : decide (s3.toList = s2.toList) = true := decide_eq_true (by rw [hs3, hs2.out, hpb])
                    have hk2 : (s3.toList == s2.toList) = true := by simp [hs3, hs2.out, hpb]
                    have HB2 := Lib.hid hpb
                    have hyb3 := hyb2 hpb
                    clear hs3 hyb2 hpb
                    generalize p.length = pb at *
                    go_wp2_with fail
                    go_quiet (fail)
                    go_wp2_with fail
                    go_roundw
                    case rel => exact ⟨j + 1, y + 1, by omega, by go_num, by go_num, by rw [HC.out, if_pos HB2.out, HY.out]; omega, below_drewN hbj _⟩
                    case measure => simp [intOf]; omega
                  · have hne : ¬ (s3.toList = s2.toList) := fun h => hpb (by rw [hs3, hs2.out, strOf_toList, strOf_toList] at h; exact h)
                    have hk1 : decide (s3.toList = s2.toList) = false := decide_eq_false hne
                    have hk2 : (s3.toList == s2.toList) = false := by simpa using hne
                    have HB2 := Lib.hid hpb
                    clear hs3 hyb2 hpb hne
                    generalize p.length = pb at *
                    go_wp2_with fail
                    go_quiet (fail)
                    go_wp2_with fail
                    go_roundw
                    case rel => exact ⟨j + 1, y, by omega, by go_num, rfl, by rw [HC.out, if_neg HB2.out, HY.out]; omega, below_drewN hbj _⟩
                    case measure => simp [intOf]; omega
                · obtain rfl : j = q := by omega
                  have hT3 : Told most body l2 y := by
                    have h1 := HT.out
                    have h2 := HY.out
                    rw [List.take_of_length_le (by have := HQL.out; omega)] at h2
                    rw [h2]
                    exact h1
                  have hd5 : decide (most < y) = false := by have := hT3.le; simp; omega
                  have hN3 := hu3.grow hbj
                  have hma := fun W (h : IsWaits l2.waits (.slice A3 n3' c3') W) => lkmay_u l2 (.slice A3 n3' c3') W h
                  rw [hT3.may] at hma
                  replace hO := hOj
                  clear hOj hclj hcgj
                  have hd6 : bl = true → decide (0 < j) = false := fun h => by
                    have h1 := HQL.out
                    rw [HL.out h] at h1
                    simp at h1
                    simp
                    omega
                  have HT3 := Lib.hid hT3
                  clear hT3 HT HY hu3 hP hbj hyb
                  cases bl with
                  | true =>
                    have hd7 := hd6 rfl
                    clear hd6
                    go_wp2_with (first
                      | ((with_reducible refine own_loadg1 hO ?_ _ rfl rfl _ Try.underlying25 rfl (by kernel_rfl) ?_); (· first | rfl | (simp [Region.wanted, yielded]; done)))
                      | (go_at_call 13; (with_reducible refine (hma _ hN3.is).mono ?_); rintro e w4 ⟨rfl, hb4⟩; replace hO := hO.grow hb4; replace hN3 := hN3.grow hb4)
                      | ((with_reducible refine own_row0 #[.int .i64 l2.period, .int .i64 l2.most, .int .i64 l2.quiet, .int .i64 l2.heard, .slice A3 n3' c3'] hO rfl _ _ rfl rfl rfl (by kernel_rfl) rfl ?_ ?_); (· (simp [Value.oneCell']; done)); intro wR hOR hszR hkR; replace hN3 := hN3.farT hO.b0 (by simp [is8]) hszR hkR; replace hO := hOR; clear hOR hszR hkR)
                      )
                    go_roundw
                    case rel => exact ⟨k + 1, y, l2, A3, n3', c3', by omega, by go_num, rfl, HT3.out, ⟨hO.below, fun v hv => hO.blk v (by simp at hv; simp [hv]), by simp⟩, hN3⟩
                    case measure => simp [intOf]; omega
                  | false =>
                    clear hd6
                    go_wp2_with (first
                      | ((with_reducible refine own_loadg1 hO ?_ _ rfl rfl _ Try.underlying25 rfl (by kernel_rfl) ?_); (· first | rfl | (simp [Region.wanted, yielded]; done)))
                      | (go_at_call 13; (with_reducible refine (hma _ hN3.is).mono ?_); rintro e w4 ⟨rfl, hb4⟩; replace hO := hO.grow hb4; replace hN3 := hN3.grow hb4)
                      | ((with_reducible refine own_row0 #[.int .i64 l2.period, .int .i64 l2.most, .int .i64 l2.quiet, .int .i64 l2.heard, .slice A3 n3' c3'] hO rfl _ _ rfl rfl rfl (by kernel_rfl) rfl ?_ ?_); (· (simp [Value.oneCell']; done)); intro wR hOR hszR hkR; replace hN3 := hN3.farT hO.b0 (by simp [is8]) hszR hkR; replace hO := hOR; clear hOR hszR hkR)
                      )
                    go_roundw
                    case rel => exact ⟨k + 1, y, l2, A3, n3', c3', by omega, by go_num, rfl, HT3.out, ⟨hO.below, fun v hv => hO.blk v (by simp at hv; simp [hv]), by simp⟩, hN3⟩
                    case measure => simp [intOf]; omega
      · have hd2 : decide ((2000 : Int) < x.body.length) = true := by simp; omega
        go_wp2_with fail
        go_ret
        exact ⟨rfl, hO.below⟩
    · obtain rfl : k = n := by omega
      go_wp2_with fail
      go_ret
      exact ⟨rfl, hO.below⟩
theorem linkTries_walk (most : Int) (_ : -9223372036854775808 ≤ most) (_ : most ≤ 9223372036854775807) (vl : Value) (ws : List Wt) (hbd : ∀ x ∈ ws, -9223372036854775808 ≤ x.due ∧ x.due ≤ 9223372036854775807) (vb : Value) (body : List UInt8) (t : Int) (ht1 : -9223372036854775808 ≤ t) (ht2 : t ≤ 9223372036854775807) (w : World) (hl : IsWaits ws vl w) (hb : IsBytes body vb w) :
    Calls Try.prog 6 #[.int .i64 most, vl, vb, .int .i64 t] w fun e w' => e = .returned (.bool true) ∧ Below w.heap.size w w' := by
  obtain ⟨A0, c0, xs, rfl, hx, hW, _, _⟩ := hl
  have hb0 := hb
  obtain ⟨Ab, cb, rfl, hB⟩ := hb
  cases h0 : mayL ⟨10, most, 1000, 0, []⟩ with
  | false => exact linkTries_early most A0 _ c0 Ab _ cb t w (.inl h0)
  | true =>
    by_cases h1 : ws.length ≤ 200 ∧ 1 ≤ body.length ∧ body.length ≤ 1023
    · by_cases he : sentE ⟨10, most, 1000, 0, []⟩ t 0 body = 0
      · exact linkTries_main most A0 _ c0 xs ws Ab _ cb body t w hx rfl hbd hW h0 h1.1 h1.2.1 h1.2.2 rfl hB ht1 ht2 he
      · exact linkTries_unsent most A0 _ c0 Ab _ cb body t w h0 h1.1 h1.2.1 h1.2.2 hb0 ht1 ht2 he
    · exact linkTries_early most A0 _ c0 Ab _ cb t w (.inr ⟨h0, h1⟩)

set_option maxRecDepth 100000 in
theorem linkTries_lifted (os : Os) (started : os.Started) (H : Type) (enc : TypeId × Value → H) :
    ReturnsInHanded {} Try.checked os 6 .any (Rows.linkTriesSpec.pre6 enc Try.prog Try.f6 Rows.linkTriesRow.domain false) (Rows.linkTriesSpec.post enc Try.prog Try.f6 false true false false) := by
  refine returnsInHanded_of_change (C := Try.checked) own started (by kernel_rfl) Try.func6
    (ChangeSpec.witness6 (enc := enc) (C := Try.checked) false ⟨#[], #[.int .i64 0, .slice none 0 0, .slice none 0 0, .int .i64 0], []⟩ 8 (by kernel_rfl) (by kernel_rfl) (by kernel_rfl) (by kernel_rfl)) ?_
  intro W base args ds gs before hval0 hW hcnd _
  have hval : ∀ (j : Nat) t v, Try.f6.params[j]? = some t → args[j]? = some v → Value.okWide Try.prog W .any base t v := hval0
  have hW' := hW
  obtain ⟨p, q, hA0, hV, rfl, hfz, hnd⟩ := hW
  have hA : DataW.TrodAll enc Try.prog W 0 (fun _ => true) true Try.f6.params.toList args.toList ds p := hA0
  rw [Try.params6] at hA hval
  obtain ⟨v0, vs0, d0, ds0, p0, q0, hargs, rfl, rfl, h0, r0⟩ := trodAll_cons hA
  obtain ⟨v1, vs1, d1, ds1, p1, q1, rfl, rfl, rfl, h1, r1⟩ := trodAll_cons r0
  obtain ⟨v2, vs2, d2, ds2, p2, q2, rfl, rfl, rfl, h2, r2⟩ := trodAll_cons r1
  obtain ⟨v3, vs3, d3, ds3, p3, q3, rfl, rfl, rfl, h3, r3⟩ := trodAll_cons r2
  obtain ⟨rfl, rfl, rfl⟩ := trodAll_nil r3
  obtain rfl : args = #[v0, v1, v2, v3] := by cases args; simp_all
  obtain ⟨rfl, rfl⟩ := trodVars_none hV
  have k0 := h0
  have lt0 : ∀ x ∈ p0, x.block < W.heap.size := by obtain ⟨m, hm⟩ := k0; exact DataW.trod_lt m _ _ _ hm
  have k1 := h1
  have lt1 : ∀ x ∈ p1, x.block < W.heap.size := by obtain ⟨m, hm⟩ := k1; exact DataW.trod_lt m _ _ _ hm
  have k2 := h2
  have lt2 : ∀ x ∈ p2, x.block < W.heap.size := by obtain ⟨m, hm⟩ := k2; exact DataW.trod_lt m _ _ _ hm
  have k3 := h3
  have lt3 : ∀ x ∈ p3, x.block < W.heap.size := by obtain ⟨m, hm⟩ := k3; exact DataW.trod_lt m _ _ _ hm
  obtain ⟨a0, rfl, _, _, w0⟩ := open_int Try.underlying3 (hval 0 3 v0 rfl rfl) h0
  obtain ⟨s1, b1, e1⟩ := open_ops (hval 1 45 v1 rfl rfl) h1
  obtain ⟨s2, b2⟩ := open_bytes (hval 2 33 v2 rfl rfl) h2
  obtain ⟨a3, rfl, _, _, w3⟩ := open_int Try.underlying3 (hval 3 3 v3 rfl rfl) h3
  clear hA0 hval0
  refine (linkTries_walk a0 (bounds_i64 w0).1 (bounds_i64 w0).2 v1 s1 e1 v2 s2 a3 (bounds_i64 w3).1 (bounds_i64 w3).2 W b1 b2).mono fun e W' ⟨he, bel⟩ => ?_
  subst he
  exact ⟨_, rfl, _, _, _, [], _, [], hW', trodAll_mk1 (shut_bool Try.underlying4 _), (trodAll_cons_mk (Below.trod laidOut (by kernel_rfl) (of_decide_eq_true (by kernel_rfl)) k0 bel lt0) (trodAll_cons_mk (Below.trod laidOut (by kernel_rfl) (of_decide_eq_true (by kernel_rfl)) k1 bel lt1) (trodAll_cons_mk (Below.trod laidOut (by kernel_rfl) (of_decide_eq_true (by kernel_rfl)) k2 bel lt2) (trodAll_cons_mk (Below.trod laidOut (by kernel_rfl) (of_decide_eq_true (by kernel_rfl)) k3 bel lt3) trodAll_mk0)))), rfl, bel.frame _, fun h => by cases h⟩

theorem linkTries_over : Rows.linkTriesRow.holds Try.pinned (OpenSpec.ofChange Rows.linkTriesSpec) :=
  OpenClaim.holds_of_wide 6 Try.f6 rfl rfl rfl rfl rfl rfl rfl ⟨rfl, rfl, rfl, rfl, rfl⟩ rfl rfl rfl rfl rfl (by kernel_rfl) Try.func6 (by kernel_rfl)
    (of_decide_eq_true (by kernel_rfl)) (by unfold Func.isWrapper; rw [if_neg (of_decide_eq_false (by kernel_rfl))]; exact ⟨rfl, rfl⟩)
    (fun os started H enc _ => linkTries_lifted os started H enc)

/-- THE STATEMENT. -/
theorem linkTries_holds : Rows.LinkTriesSaid := linkTries_over
end Go.Proofs.Ytiloammjejggjaa
