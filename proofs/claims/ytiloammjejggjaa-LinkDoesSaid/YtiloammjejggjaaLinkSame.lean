/- The document's New and Same of links. -/
import Derived.Test.YtiloammjejggjaaLinkRefMay
import Derived.Test.YtiloammjejggjaaLinkActs
set_option linter.unusedSimpArgs false
set_option linter.unusedVariables false
namespace Go.Proofs.Ytiloammjejggjaa
open Go.RowKit

/-- A link and an error handed back by the document. -/
def RetR (l : Lk) (er : Int) (w : World) (e : Ending) (w' : World) : Prop := ∃ v, e = .returned (.tuple #[v, .int .i64 er]) ∧ IsLink l v w' ∧ Below w.heap.size w w'
theorem rlnew_k (p m q n : Int) (w : World) : Calls Try.prog 10 #[.int .i64 p, .int .i64 m, .int .i64 q, .int .i64 n] w (RetR (newL p m q n) (newE p m q n) w) := by
  have hmay := fun W => rlmay_k ⟨p, m, q, n, []⟩ none 0 0 [] W rfl rfl (WaitsAt.nil W none) (by omega)
  simp only at hmay
  have hO : Own w _ [_, _] := Own.start2 w 25 25 #[.int .i64 0, .int .i64 0, .int .i64 0, .int .i64 0, .slice none 0 0] #[.int .i64 p, .int .i64 m, .int .i64 q, .int .i64 n, .slice none 0 0]
  unfold newL newE
  generalize mayL ⟨p, m, q, n, []⟩ = ok at *
  cases ok with
  | false =>
    simp only [Bool.false_eq_true, if_false]
    go_enter Try.func10, Try.ntmps10
    go_wp2_with (first
      | ((with_reducible refine own_loadg1 hO ?_ _ rfl rfl _ Try.underlying25 rfl (by kernel_rfl) ?_); (· first | rfl | (simp [Region.wanted, yielded]; done)))
      | (go_at_call 23; (with_reducible refine (hmay _).mono ?_); rintro e w1 ⟨rfl, hb1⟩; replace hO := hO.grow hb1)
      | ((with_reducible refine own_row0 (#[.int .i64 0, .int .i64 0, .int .i64 0, .int .i64 0, .slice none 0 0]) hO rfl _ _ rfl rfl rfl (by kernel_rfl) rfl ?_ ?_); (· first | rfl | (simp [Value.oneCell']; done)); intro wR hOR hszR hkR; replace hO := hOR; clear hOR)
      )
    exact bodyPost_ret (results_ct Try.results10 _ _ _ _ _ _ rfl rfl hO.b0 Try.underlying25 rfl (by kernel_rfl)) rfl ⟨_, rfl, ⟨_, rfl, IsWaits.nil _⟩, hO.below⟩
  | true =>
    simp only [if_true]
    go_enter Try.func10, Try.ntmps10
    go_wp2_with (first
      | ((with_reducible refine own_loadg1 hO ?_ _ rfl rfl _ Try.underlying25 rfl (by kernel_rfl) ?_); (· first | rfl | (simp [Region.wanted, yielded]; done)))
      | (go_at_call 23; (with_reducible refine (hmay _).mono ?_); rintro e w1 ⟨rfl, hb1⟩; replace hO := hO.grow hb1)
      | ((with_reducible refine own_row0 (#[.int .i64 p, .int .i64 m, .int .i64 q, .int .i64 n, .slice none 0 0]) hO rfl _ _ rfl rfl rfl (by kernel_rfl) rfl ?_ ?_); (· first | rfl | (simp [Value.oneCell']; done)); intro wR hOR hszR hkR; replace hO := hOR; clear hOR)
      )
    exact bodyPost_ret (results_ct Try.results10 _ _ _ _ _ _ rfl rfl hO.b0 Try.underlying25 rfl (by kernel_rfl)) rfl ⟨_, rfl, ⟨_, rfl, IsWaits.nil _⟩, hO.below⟩
set_option maxHeartbeats 4000000 in
set_option maxRecDepth 100000 in
theorem rlsame_k (ws : List Wt) (x1 x2 x3 x4 : Int) (A1 A2 : Option Addr) (n c1 c2 : Nat) (xs ys : List (Wt × Value)) (w : World) (hx : xs.map (·.1) = ws) (hy : ys.map (·.1) = ws) (hn : ws.length = n) (hX : WaitsAt w A1 xs) (hY : WaitsAt w A2 ys) (hc : n ≤ 9223372036854775807) :
    Calls Try.prog 11 #[.agg #[.int .i64 x1, .int .i64 x2, .int .i64 x3, .int .i64 x4, .slice A1 n c1], .agg #[.int .i64 x1, .int .i64 x2, .int .i64 x3, .int .i64 x4, .slice A2 n c2]] w fun e w' => e = .returned (.bool true) ∧ Below w.heap.size w w' := by
  have hO : Own w _ [_, _] := Own.start2 w 25 25 #[.int .i64 x1, .int .i64 x2, .int .i64 x3, .int .i64 x4, .slice A1 n c1] #[.int .i64 x1, .int .i64 x2, .int .i64 x3, .int .i64 x4, .slice A2 n c2]
  have hcl := hO.b0.cell
  have hcr := hO.b1.cell
  have HN := Lib.hid hn
  have HX := Lib.hid hx
  have HY := Lib.hid hy
  clear hn hx hy
  go_enter Try.func11, Try.ntmps11
  go_wp2_with fail
  replace hX := hX.below hO.below
  replace hY := hY.below hO.below
  clear hcl hcr
  go_loopw [5] (fun i wr => ∃ k : Nat, k ≤ n ∧ i = .int .i64 k ∧ Own w wr [(w.heap.size, 25, #[.int .i64 x1, .int .i64 x2, .int .i64 x3, .int .i64 x4, .slice A1 n c1]), (w.heap.size + 1, 25, #[.int .i64 x1, .int .i64 x2, .int .i64 x3, .int .i64 x4, .slice A2 n c2])] ∧ WaitsAt wr A1 xs ∧ WaitsAt wr A2 ys) (fun i _ => n - (intOf i).toNat)
  case atStart => exact ⟨0, Nat.zero_le _, rfl, hO, hX, hY⟩
  case round =>
    clear hO hX hY
    obtain ⟨k, hk, rfl, hO, hX, hY⟩ := hrel
    have hcl := hO.b0.cell
    have hcr := hO.b1.cell
    have hlt0 := hO.b0.lt
    have hlt1 := hO.b1.lt
    by_cases hlt : k < n
    · obtain ⟨x, Ab, cb, b, off, hwk, hxk, rfl, hbl, hc0, hc1, hc2, hc3, hB⟩ := hX.get (k := k) HX.out (by have h1 := HN.out; omega)
      obtain ⟨x', Ab', cb', b', off', hwk', hxk', rfl, hbl', hd0, hd1, hd2, hd3, hB'⟩ := hY.get (k := k) HY.out (by have h1 := HN.out; omega)
      obtain rfl : x = x' := by rw [hwk] at hwk'; injection hwk'
      obtain ⟨s1, hs1⟩ : ∃ s1, s1 = strOf x.body := ⟨_, rfl⟩
      have hv1 := run_bytes_string ((hB.alloc (.cells #[.int .i64 x.t, .int .i64 x.due, .int .i64 x.tries, .slice Ab x.body.length cb] 35)).alloc (.cells #[.int .i64 x.t, .int .i64 x.due, .int .i64 x.tries, .slice Ab' x.body.length cb'] 35))
      have hv2 := run_bytes_string ((hB'.alloc (.cells #[.int .i64 x.t, .int .i64 x.due, .int .i64 x.tries, .slice Ab x.body.length cb] 35)).alloc (.cells #[.int .i64 x.t, .int .i64 x.due, .int .i64 x.tries, .slice Ab' x.body.length cb'] 35))
      rw [← hs1] at hv1 hv2
      clear hs1 hwk hwk' hxk hxk' hB hB'
      generalize x.body.length = nb at *
      generalize x.t = xt at *
      generalize x.due = xd at *
      generalize x.tries = xr at *
      clear x
      have he0 := (World.cell?_alloc_lt wr (.cells #[.int .i64 xt, .int .i64 xd, .int .i64 xr, .slice Ab nb cb] 35) ⟨b', off' + k * 4, none⟩ hbl').trans hd0
      have he1 := (World.cell?_alloc_lt wr (.cells #[.int .i64 xt, .int .i64 xd, .int .i64 xr, .slice Ab nb cb] 35) ⟨b', off' + k * 4 + 1, none⟩ hbl').trans hd1
      have he2 := (World.cell?_alloc_lt wr (.cells #[.int .i64 xt, .int .i64 xd, .int .i64 xr, .slice Ab nb cb] 35) ⟨b', off' + k * 4 + 2, none⟩ hbl').trans hd2
      have he3 := (World.cell?_alloc_lt wr (.cells #[.int .i64 xt, .int .i64 xd, .int .i64 xr, .slice Ab nb cb] 35) ⟨b', off' + k * 4 + 3, none⟩ hbl').trans hd3
      go_wp2_with fail
      go_roundw
      case rel => exact ⟨k + 1, by omega, by go_num, ⟨hO.below.trans ((((Below.refl _ _).alloc (Nat.le_refl _) _).alloc (by simp) _).mono hO.below.size), fun x hx => ⟨(hO.blk x hx).1, ((hO.blk x hx).2.alloc _).alloc _⟩, hO.nodup⟩, (hX.alloc _).alloc _, (hY.alloc _).alloc _⟩
      case measure => simp [intOf]; omega
    · obtain rfl : k = n := by omega
      go_wp2_with fail
      go_ret
      exact ⟨rfl, hO.below⟩
theorem rlsame_u (l : Lk) (u v : Value) (w : World) (hu : IsWaits l.waits u w) (hv : IsWaits l.waits v w) :
    Calls Try.prog 11 #[.agg #[.int .i64 l.period, .int .i64 l.most, .int .i64 l.quiet, .int .i64 l.heard, u], .agg #[.int .i64 l.period, .int .i64 l.most, .int .i64 l.quiet, .int .i64 l.heard, v]] w fun e w' => e = .returned (.bool true) ∧ Below w.heap.size w w' := by
  obtain ⟨A, c, xs, rfl, hx, hW, h1, h2⟩ := hu
  obtain ⟨A', c', xs', rfl, hx', hW', h1', h2'⟩ := hv
  exact rlsame_k l.waits _ _ _ _ A A' _ c c' xs xs' w hx hx' rfl hW hW' (by simp only [maxLen] at h2; omega)
end Go.Proofs.Ytiloammjejggjaa
