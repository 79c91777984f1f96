/- Texts in one: BoardC BoardA. -/
import Derived.Test.YtpjdcpicfkdioaaGreatDoorK18
/- onboard: back, front, rising, blank. -/
set_option linter.unusedSimpArgs false
set_option linter.unusedVariables false
namespace Go.Proofs.YtpjdcpicfkdioaaGreatDoor
open Go.RowKit Go.Shelf

/-- What back hands back. -/
def backR (t : Tp) (m : Ma) : Int × Bool := match balT t m.ref with
  | none => (0, false)
  | some b => ((onT t m.path (placeB b m.rev)).1, decide ((onT t m.path (placeB b m.rev)).2 = 0))
theorem back_is (t : Tp) (m : Ma) : backX t m = if (backR t m).2 = true then some (backR t m).1 else none := by
  unfold backX backR
  cases balT t m.ref with
  | none => rfl
  | some b => simp
set_option maxRecDepth 8000 in
set_option maxHeartbeats 4000000 in
theorem back_m {w : World} {t : Tp} {m : TpM} (h : TpIs w t m) (ma : Ma) (v : MaM) (hm : MaIs w ma v) : Calls Tryz.prog 51 #[.agg m.cells, .agg (maC ma v)] w fun e w' => e = .returned (.tuple #[.int .i64 (backR t ma).1, .bool (backR t ma).2]) ∧ Below w.heap.size w w' := by
  have hO : Own w _ [_, _] := Own.start2 w 27 42 m.cells (maC ma v)
  have hcl := hO.b0.cell
  have hcm := hO.b1.cell
  have hbal := fun W (hW : Below w.heap.size w W) => bal_m (h.below hW) ma.ref
  have hon := fun W (hW : Below w.heap.size w W) p => on_m (h.below hW) v.A1 v.n1 v.c1 ma.path p (hm.path.below hW) hm.e1 hm.l1
  have hr : backR t ma = match balT t ma.ref with
    | none => (0, false)
    | some b => ((onT t ma.path (placeB b ma.rev)).1, decide ((onT t ma.path (placeB b ma.rev)).2 = 0)) := rfl
  generalize backR t ma = br at *
  unfold maC at *
  cases hb : balT t ma.ref with
  | none =>
    rw [hb] at hr hbal
    simp only [Option.getD_none, Option.isSome_none] at hbal
    obtain rfl : br = (0, false) := hr
    clear hb hon
    unfold TpM.cells at *
    go_enter Tryz.func51, Tryz.ntmps51
    go_wp2_with (first
      | (go_at_call 37; (with_reducible refine (hbal _ hO.below).mono ?_); rintro e w1 ⟨rfl, hb1⟩; replace hO := hO.grow hb1))
    go_ret2
    exact ⟨rfl, below_then hO.below ((Below.refl _ _).alloc (Nat.le_refl _) _)⟩
  | some b =>
    rw [hb] at hr hbal
    simp only [Option.getD_some, Option.isSome_some] at hbal hr
    replace hon := fun W hW => hon W hW (placeB b ma.rev)
    obtain ⟨b1, b2, b3⟩ := b
    simp only [placeB] at hon hr hbal
    rcases hoo : onT t ma.path ⟨b2, b3, ma.rev⟩ with ⟨o1, o2⟩
    simp only [hoo] at hon hr
    clear hoo
    subst hr
    clear hb
    unfold TpM.cells at *
    go_enter Tryz.func51, Tryz.ntmps51
    go_wp2_with (first
      | (go_at_call 37; (with_reducible refine (hbal _ hO.below).mono ?_); rintro e w1 ⟨rfl, hb1⟩; replace hO := Own.new2 (hO.grow hb1) 96 #[.int .i64 b1, .int .i64 b2, .int .i64 b3]; have hcl1 := hO.b0.cell; have hcm1 := hO.b1.cell; have hcb1 := hO.b2.cell)
      | (go_at_call 55; (with_reducible refine (hon _ hO.below).mono ?_); rintro e w2 ⟨rfl, hb2⟩; replace hO := hO.grow hb2))
    go_ret2
    refine ⟨?_, hO.below⟩
    by_cases h0 : o2 = 0 <;> simp [h0]
theorem ahead_bound {t : Tp} (hl : ∀ n ∈ t.edges, 1 ≤ n ∧ n ≤ 1000000) {x : St} : ∀ (l : List St) (n a : Int), (∀ s ∈ l, thereT t s.edge = true) → aheadT t x l n = some a → n ≤ a ∧ a ≤ n + 1000000 * l.length
  | [], _, _, _, h => by simp [aheadT] at h
  | s :: l, n, a, hs, h => by
    rw [aheadT] at h
    have := edge_len hl (hs s (by simp))
    split at h
    · simp at h
      subst h
      simp only [List.length_cons]
      omega
    · have ih := ahead_bound hl l _ a (fun z hz => hs z (List.mem_cons_of_mem _ hz)) h
      simp only [List.length_cons]
      omega
theorem on_bound (t : Tp) (path : List St) (p : Ps) : 0 ≤ (onT t path p).1 ∧ (onT t path p).1 ≤ 100000000 := by
  unfold onT
  split
  · simp
  · rename_i h1
    split
    · simp
    · rename_i h2
      have h2 : lenE t path = 0 := Decidable.not_not.1 h2
      have h1 : rightT t p = true := by simpa using h1
      obtain ⟨r1, r2, r3, r4⟩ := right_parts h1
      have hl := check_edges r1
      have he := edge_len hl r2
      obtain ⟨k1, k2, k3, k4⟩ := len_ok h2
      split
      · simp
      · rename_i a ha
        have := ahead_bound hl path 0 a k3 ha
        simp only [alongT]
        split <;> omega
theorem back_bound (t : Tp) (m : Ma) : 0 ≤ (backR t m).1 ∧ (backR t m).1 ≤ 100000000 := by
  unfold backR
  cases balT t m.ref with
  | none => simp
  | some b => exact on_bound _ _ _
def frontV (o : Option Int) : Value := match o with
  | none => .tuple #[.int .i64 0, .bool false]
  | some n => .tuple #[.int .i64 n, .bool true]
set_option maxRecDepth 8000 in
set_option maxHeartbeats 4000000 in
theorem front_m {w : World} {t : Tp} {m : TpM} (h : TpIs w t m) (ma : Ma) (v : MaM) (hm : MaIs w ma v) (p : Ps) : Calls Tryz.prog 32 #[.agg m.cells, .agg (maC ma v), psV p] w fun e w' => e = .returned (frontV (frontM t ma p)) ∧ Below w.heap.size w w' := by
  have hO : Own w _ [_, _, _] := Own.start3 w 27 42 38 m.cells (maC ma v) #[.int .i64 p.edge, .int .i64 p.at_, .bool p.rev]
  have hcl := hO.b0.cell
  have hcm := hO.b1.cell
  have hcp := hO.b2.cell
  have hba := fun W (hW : Below w.heap.size w W) => back_m (h.below hW) ma v (hm.below hW)
  have hon := fun W (hW : Below w.heap.size w W) => on_m (h.below hW) v.A1 v.n1 v.c1 ma.path p (hm.path.below hW) hm.e1 hm.l1
  have hr : frontM t ma p = match backX t ma with
    | none => none
    | some b => if (onT t ma.path p).2 = 0 ∧ b ≤ (onT t ma.path p).1 then some ((onT t ma.path p).1 - b) else none := rfl
  rw [back_is] at hr
  have hb0 := back_bound t ma
  have ho0 := on_bound t ma.path p
  generalize frontM t ma p = fm at *
  generalize onT t ma.path p = on at *
  generalize backR t ma = br at *
  obtain ⟨pe, pa, pr⟩ := p
  obtain ⟨o1, o2⟩ := on
  obtain ⟨b1, b2⟩ := br
  simp only [TpM.cells] at hr hb0 ho0 hba hon hO hcl hcm hcp ⊢
  unfold maC at *
  unfold frontV
  cases b2 with
  | false =>
    obtain rfl : fm = none := hr
    go_enter Tryz.func32, Tryz.ntmps32
    go_wp2_with (first
      | (go_at_call 51; (with_reducible refine (hba _ hO.below).mono ?_); rintro e w1 ⟨rfl, hb1⟩; replace hO := hO.grow hb1; have hcl1 := hO.b0.cell; have hcm1 := hO.b1.cell; have hcb1 := hO.b2.cell)
      | (go_at_call 55; (with_reducible refine (hon _ hO.below).mono ?_); rintro e w2 ⟨rfl, hb2⟩; replace hO := hO.grow hb2))
    go_ret2
    exact ⟨rfl, hO.below⟩
  | true =>
    simp only [if_true] at hr
    by_cases h2 : o2 = 0
    · subst h2
      by_cases h3 : b1 ≤ o1
      · obtain rfl : fm = some (o1 - b1) := by rw [hr, if_pos ⟨rfl, h3⟩]
        have f3 : decide (o1 < b1) = false := by simp; omega
        clear hr
        go_enter Tryz.func32, Tryz.ntmps32
        go_wp2_with (first
          | (go_at_call 51; (with_reducible refine (hba _ hO.below).mono ?_); rintro e w1 ⟨rfl, hb1⟩; replace hO := hO.grow hb1; have hcl1 := hO.b0.cell; have hcm1 := hO.b1.cell; have hcb1 := hO.b2.cell)
          | (go_at_call 55; (with_reducible refine (hon _ hO.below).mono ?_); rintro e w2 ⟨rfl, hb2⟩; replace hO := hO.grow hb2))
        go_ret2
        exact ⟨rfl, hO.below⟩
      · obtain rfl : fm = none := by rw [hr, if_neg (fun hh => h3 hh.2)]
        have f3 : decide (o1 < b1) = true := by simp; omega
        clear hr
        go_enter Tryz.func32, Tryz.ntmps32
        go_wp2_with (first
          | (go_at_call 51; (with_reducible refine (hba _ hO.below).mono ?_); rintro e w1 ⟨rfl, hb1⟩; replace hO := hO.grow hb1; have hcl1 := hO.b0.cell; have hcm1 := hO.b1.cell; have hcb1 := hO.b2.cell)
          | (go_at_call 55; (with_reducible refine (hon _ hO.below).mono ?_); rintro e w2 ⟨rfl, hb2⟩; replace hO := hO.grow hb2))
        go_ret2
        exact ⟨rfl, hO.below⟩
    · obtain rfl : fm = none := by rw [hr, if_neg (fun hh => h2 hh.1)]
      have hne : (o2 != 0) = true := by simpa using h2
      clear hr h2
      go_enter Tryz.func32, Tryz.ntmps32
      go_wp2_with (first
        | (go_at_call 51; (with_reducible refine (hba _ hO.below).mono ?_); rintro e w1 ⟨rfl, hb1⟩; replace hO := hO.grow hb1; have hcl1 := hO.b0.cell; have hcm1 := hO.b1.cell; have hcb1 := hO.b2.cell)
        | (go_at_call 55; (with_reducible refine (hon _ hO.below).mono ?_); rintro e w2 ⟨rfl, hb2⟩; replace hO := hO.grow hb2))
      go_ret2
      exact ⟨rfl, hO.below⟩
theorem rising_drop {l : List Int} {k : Nat} {n x : Int} (h : l[k]? = some n) : risingP x (l.drop k) = (decide (x < n) && decide (n ≤ 15) && risingP n (l.drop (k + 1))) := by
  rw [drop_cons h, risingP]
set_option maxHeartbeats 2000000 in
theorem rising_k (A : Option Addr) (n c : Nat) (l : List Int) (w : World) (hp : RowsAt encI w A l) (hn : l.length = n) (hl : n ≤ 100) : Calls Tryz.prog 36 #[.slice A n c] w fun e w' => e = .returned (.bool (risingP (-1) l)) ∧ w' = w := by
  have HN := Lib.hid hn
  clear hn
  go_enter Tryz.func36, Tryz.ntmps36
  go_wp2
  go_loop [3, 8] (fun a i => ∃ (k : Nat) (x : Int), i = .int .i64 k ∧ k ≤ n ∧ a = .int .i64 x ∧ Hid (risingP (-1) l = risingP x (l.drop k))) (fun _ i => n - (intOf i).toNat)
  case atStart => exact ⟨0, -1, rfl, Nat.zero_le _, rfl, Lib.hid (by simp)⟩
  case round =>
    obtain ⟨k, x, rfl, hk, rfl, hap⟩ := hrel
    by_cases hlt : k < n
    · obtain ⟨y, hy⟩ := get_some HN.out hlt
      have hstep := rising_drop (x := x) hy
      rw [← hap.out] at hstep
      have HS := Lib.hid hstep
      obtain ⟨g, off, rfl, hg, a0⟩ := hp.int (i := k) (by rw [HN.out]; exact hlt)
      obtain ⟨hk', rfl⟩ := List.getElem?_eq_some_iff.1 hy
      rw [getElem!_pos l k hk'] at a0
      generalize l[k] = y at *
      clear hstep hy hap
      by_cases g1 : y ≤ x
      · have f1 : decide (y ≤ x) = true := by simpa using g1
        go_wp2_with fail
        go_ret
        exact ⟨by simp [HS.out]; omega, rfl⟩
      · have f1 : decide (y ≤ x) = false := by simpa using g1
        by_cases g2 : 15 < y
        · have f2 : decide (15 < y) = true := by simpa using g2
          go_wp2_with fail
          go_ret
          exact ⟨by simp [HS.out]; omega, rfl⟩
        · have f2 : decide (15 < y) = false := by simpa using g2
          have HS2 := Lib.hid (show risingP (-1) l = risingP y (l.drop (k + 1)) by rw [HS.out]; simp; omega)
          clear HS
          go_wp2_with fail
          go_round
          case rel => exact ⟨k + 1, y, by go_num, by omega, rfl, HS2⟩
          case measure => simp [intOf]; omega
    · obtain rfl : k = n := by omega
      have hap' : risingP (-1) l = true := by
        rw [hap.out, List.drop_of_length_le (by rw [HN.out]; exact Nat.le_refl _)]
        rfl
      have HAP := Lib.hid hap'
      clear hap'
      go_wp2_with fail
      go_ret
      exact ⟨by simp [HAP.out], rfl⟩
set_option maxHeartbeats 2000000 in
theorem blank_k (ma : Ma) (v : MaM) (w : World) (h : MaIs w ma v) : Calls Tryz.prog 39 #[.agg (maC ma v)] w fun e w' => e = .returned (.bool (blankP ma)) ∧ Below w.heap.size w w' := by
  have hO : Own w _ [_] := (Own.nil w).alloc 42 (maC ma v) _ rfl
  have hcl := hO.b0.cell
  have hr : blankP ma = (decide (ma.ref = 0) && !ma.rev && decide (v.n1 = 0) && decide (v.n2 = 0) && decide (ma.gap = 0)) := by
    unfold blankP
    rw [← h.e1, ← h.e2]
    congr 1
    congr 1
    · congr 1
      cases ma.path <;> simp
    · cases ma.sects <;> simp
  generalize blankP ma = bp at *
  unfold maC at *
  by_cases h1 : ma.ref = 0
  · have f1 : (ma.ref == 0) = true := by simpa using h1
    cases h2 : ma.rev with
    | true =>
      obtain rfl : bp = false := by rw [hr, h2]; simp
      simp only [h2] at hO hcl ⊢
      clear hr h1 h2
      go_enter Tryz.func39, Tryz.ntmps39
      go_wp2_with fail
      go_ret
      exact ⟨rfl, hO.below⟩
    | false =>
      simp only [h2] at hO hcl ⊢
      by_cases h3 : v.n1 = 0
      · have f3 : ((v.n1 : Int) == 0) = true := by simp [h3]
        by_cases h4 : v.n2 = 0
        · have f4 : ((v.n2 : Int) == 0) = true := by simp [h4]
          by_cases h5 : ma.gap = 0
          · have f5 : (ma.gap == 0) = true := by simpa using h5
            obtain rfl : bp = true := by rw [hr, h1, h2, h3, h4, h5]; rfl
            clear hr h1 h2 h3 h4 h5
            go_enter Tryz.func39, Tryz.ntmps39
            go_wp2_with fail
            go_ret
            exact ⟨rfl, hO.below⟩
          · have f5 : (ma.gap == 0) = false := by simpa using h5
            obtain rfl : bp = false := by rw [hr, decide_eq_false h5]; simp
            clear hr h1 h2 h3 h4 h5
            go_enter Tryz.func39, Tryz.ntmps39
            go_wp2_with fail
            go_ret
            exact ⟨rfl, hO.below⟩
        · have f4 : ((v.n2 : Int) == 0) = false := by simp; omega
          obtain rfl : bp = false := by rw [hr, decide_eq_false h4]; simp
          clear hr h1 h2 h3 h4
          go_enter Tryz.func39, Tryz.ntmps39
          go_wp2_with fail
          go_ret
          exact ⟨rfl, hO.below⟩
      · have f3 : ((v.n1 : Int) == 0) = false := by simp; omega
        obtain rfl : bp = false := by rw [hr, decide_eq_false h3]; simp
        clear hr h1 h2 h3
        go_enter Tryz.func39, Tryz.ntmps39
        go_wp2_with fail
        go_ret
        exact ⟨rfl, hO.below⟩
  · have f1 : (ma.ref == 0) = false := by simpa using h1
    obtain rfl : bp = false := by rw [hr, decide_eq_false h1]; simp
    clear hr h1
    go_enter Tryz.func39, Tryz.ntmps39
    go_wp2_with fail
    go_ret
    exact ⟨rfl, hO.below⟩
end Go.Proofs.YtpjdcpicfkdioaaGreatDoor
/- stamp.New, stamp.May, link.New of none that waits. -/
set_option linter.unusedSimpArgs false
set_option linter.unusedVariables false
namespace Go.Proofs.YtpjdcpicfkdioaaGreatDoor
open Go.RowKit Go.Shelf

theorem stime_k (n : Int) (w : World) : Calls Tryz.prog 79 #[.int .i64 n] w fun e w' => e = .returned (.bool (timeP n)) ∧ w' = w := by
  unfold timeP
  by_cases h1 : 0 ≤ n
  · have f1 : decide (0 ≤ n) = true := by simpa using h1
    go_enter Tryz.func79, Tryz.ntmps79
    go_wp2
    go_ret
    exact ⟨by simp [h1], rfl⟩
  · have f1 : decide (0 ≤ n) = false := by simpa using h1
    go_enter Tryz.func79, Tryz.ntmps79
    go_wp2
    go_ret
    exact ⟨by simp [h1], rfl⟩
theorem clock_k (n : Int) (w : World) : Calls Tryz.prog 78 #[.int .i64 n] w fun e w' => e = .returned (.bool (clockP n)) ∧ w' = w := by
  unfold clockP
  by_cases h1 : 0 ≤ n
  · have f1 : decide (0 ≤ n) = true := by simpa using h1
    go_enter Tryz.func78, Tryz.ntmps78
    go_wp2
    go_ret
    exact ⟨by simp [h1], rfl⟩
  · have f1 : decide (0 ≤ n) = false := by simpa using h1
    go_enter Tryz.func78, Tryz.ntmps78
    go_wp2
    go_ret
    exact ⟨by simp [h1], rfl⟩
/-- What stamp.New gives. -/
def stampN (a b : Int) : Array Value := if (timeP a && timeP b) = true then #[.int .i64 (-1), .int .i64 a, .int .i64 b, .bool false] else #[.int .i64 0, .int .i64 0, .int .i64 0, .bool false]
def stampE (a b : Int) : Int := if (timeP a && timeP b) = true then 0 else 1
set_option maxHeartbeats 2000000 in
theorem snew_k (a b : Int) (w : World) : Calls Tryz.prog 70 #[.int .i64 a, .int .i64 b] w fun e w' => e = .returned (.tuple #[.agg (stampN a b), .int .i64 (stampE a b)]) ∧ Below w.heap.size w w' := by
  have hO : Own w _ [_] := (Own.nil w).alloc 36 #[.int .i64 0, .int .i64 0, .int .i64 0, .bool false] _ rfl
  have h1 := fun W => stime_k a W
  have h2 := fun W => stime_k b W
  unfold stampN stampE
  cases ha : timeP a with
  | false =>
    rw [ha] at h1
    simp only [Bool.false_and, Bool.false_eq_true, if_false]
    go_enter Tryz.func70, Tryz.ntmps70
    go_wp2_with (first
      | (go_at_call 79; (with_reducible refine (h1 _).mono ?_); rintro e w1 ⟨rfl, rfl⟩)
      | ((with_reducible refine own_row0 (#[.int .i64 0, .int .i64 0, .int .i64 0, .bool false]) hO rfl _ _ rfl rfl rfl (by kernel_rfl) rfl ?_ ?_); (· first | rfl | (simp [Value.oneCell']; done)); intro wR hOR hszR hkR; replace hO := hOR; clear hOR)
      )
    exact bodyPost_ret (results_ct1 Tryz.results70 _ _ _ _ _ _ rfl rfl hO.b0 Tryz.underlying36 rfl (by kernel_rfl)) rfl ⟨rfl, hO.below⟩
  | true =>
    rw [ha] at h1
    cases hb : timeP b with
    | false =>
      rw [hb] at h2
      simp only [Bool.and_false, Bool.false_eq_true, if_false]
      go_enter Tryz.func70, Tryz.ntmps70
      go_wp2_with (first
        | (go_at_call 79; (with_reducible refine (h1 _).mono ?_); rintro e w1 ⟨rfl, rfl⟩)
        | (go_at_call 79; (with_reducible refine (h2 _).mono ?_); rintro e w1 ⟨rfl, rfl⟩)
        | ((with_reducible refine own_row0 (#[.int .i64 0, .int .i64 0, .int .i64 0, .bool false]) hO rfl _ _ rfl rfl rfl (by kernel_rfl) rfl ?_ ?_); (· first | rfl | (simp [Value.oneCell']; done)); intro wR hOR hszR hkR; replace hO := hOR; clear hOR)
        )
      exact bodyPost_ret (results_ct1 Tryz.results70 _ _ _ _ _ _ rfl rfl hO.b0 Tryz.underlying36 rfl (by kernel_rfl)) rfl ⟨rfl, hO.below⟩
    | true =>
      rw [hb] at h2
      simp only [Bool.and_self, if_true]
      go_enter Tryz.func70, Tryz.ntmps70
      go_wp2_with (first
        | (go_at_call 79; (with_reducible refine (h1 _).mono ?_); rintro e w1 ⟨rfl, rfl⟩)
        | (go_at_call 79; (with_reducible refine (h2 _).mono ?_); rintro e w1 ⟨rfl, rfl⟩)
        | ((with_reducible refine own_row0 (#[.int .i64 (-1), .int .i64 a, .int .i64 b, .bool false]) hO rfl _ _ rfl rfl rfl (by kernel_rfl) rfl ?_ ?_); (· first | rfl | (simp [Value.oneCell']; done)); intro wR hOR hszR hkR; replace hO := hOR; clear hOR)
        )
      exact bodyPost_ret (results_ct1 Tryz.results70 _ _ _ _ _ _ rfl rfl hO.b0 Tryz.underlying36 rfl (by kernel_rfl)) rfl ⟨rfl, hO.below⟩
def stampMay (l a b : Int) : Bool := timeP a && timeP b && (decide (l = -1) || timeP l)
set_option maxHeartbeats 2000000 in
theorem smay_k (l a b : Int) (f : Bool) (w : World) : Calls Tryz.prog 34 #[.agg #[.int .i64 l, .int .i64 a, .int .i64 b, .bool f]] w fun e w' => e = .returned (.bool (stampMay l a b)) ∧ Below w.heap.size w w' := by
  have hO : Own w _ [_] := (Own.nil w).alloc 36 #[.int .i64 l, .int .i64 a, .int .i64 b, .bool f] _ rfl
  have hcl := hO.b0.cell
  have h1 := fun W => stime_k a W
  have h2 := fun W => stime_k b W
  have h3 := fun W => stime_k l W
  unfold stampMay
  cases ha : timeP a with
  | false =>
    rw [ha] at h1
    go_enter Tryz.func34, Tryz.ntmps34
    go_wp2_with (first
      | (go_at_call 79; (with_reducible refine (h1 _).mono ?_); rintro e w1 ⟨rfl, rfl⟩))
    go_ret
    exact ⟨by simp, hO.below⟩
  | true =>
    rw [ha] at h1
    cases hb : timeP b with
    | false =>
      rw [hb] at h2
      go_enter Tryz.func34, Tryz.ntmps34
      go_wp2_with (first
        | (go_at_call 79; (with_reducible refine (h1 _).mono ?_); rintro e w1 ⟨rfl, rfl⟩)
        | (go_at_call 79; (with_reducible refine (h2 _).mono ?_); rintro e w1 ⟨rfl, rfl⟩))
      go_ret
      exact ⟨by simp, hO.below⟩
    | true =>
      rw [hb] at h2
      by_cases hl : l = -1
      · subst hl
        go_enter Tryz.func34, Tryz.ntmps34
        go_wp2_with (first
          | (go_at_call 79; (with_reducible refine (h1 _).mono ?_); rintro e w1 ⟨rfl, rfl⟩)
          | (go_at_call 79; (with_reducible refine (h2 _).mono ?_); rintro e w1 ⟨rfl, rfl⟩))
        go_ret
        exact ⟨by simp, hO.below⟩
      · have e1 : (l == -1) = false := by simpa using hl
        have HL := Lib.hid hl
        clear hl
        go_enter Tryz.func34, Tryz.ntmps34
        go_wp2_with (first
          | (go_at_call 79; (with_reducible refine (h1 _).mono ?_); rintro e w1 ⟨rfl, rfl⟩)
          | (go_at_call 79; (with_reducible refine (h2 _).mono ?_); rintro e w1 ⟨rfl, rfl⟩)
          | (go_at_call 79; (with_reducible refine (h3 _).mono ?_); rintro e w1 ⟨rfl, rfl⟩))
        go_ret
        exact ⟨by simp [HL.out], hO.below⟩
end Go.Proofs.YtpjdcpicfkdioaaGreatDoor
