/- The chapter's example is as it is told. -/
import Derived.Test.YtiloammjejggjaaLinkTick
set_option linter.unusedSimpArgs false
set_option linter.unusedVariables false
namespace Go.Proofs.Ytiloammjejggjaa
open Go.RowKit

theorem OwnV.farT {w w' : World} {base c : Nat} {A : Option Addr} {xs : List (Wt × Value)} (h : OwnV w base A c xs) {g : Nat} {t : TypeId} {cs : Array Value} (hg : Blk w g t cs) (ht : t ≠ 35) (hn : cs.all (fun v => !is8 v) = true) (hz : w'.heap.size = w.heap.size) (hk : ∀ k, k ≠ g → w'.heap[k]? = w.heap[k]?) : OwnV w' base A c xs := by
  refine ⟨⟨h.own.1, ?_⟩, fun p hp => ?_⟩
  · rcases h.own.2 with h' | ⟨k, cap, cur, e, h1, h2, h3⟩
    · exact .inl h'
    · refine .inr ⟨k, cap, cur, e, h1, (hk k fun e => ?_).trans h2, h3⟩
      subst e
      unfold Blk at hg
      rw [h2] at hg
      simp at hg
      exact ht hg.2.symm
  · obtain ⟨Ab, cb, e, hB⟩ := h.body p hp
    exact ⟨Ab, cb, e, hB.apart hg hn hz hk⟩
theorem IsWaitsN.farT {w w' : World} {base : Nat} {ws : List Wt} {v : Value} (h : IsWaitsN base ws v w) {g : Nat} {cs : Array Value} (hg : Blk w g 25 cs) (hn : cs.all (fun v => !is8 v) = true) (hz : w'.heap.size = w.heap.size) (hk : ∀ k, k ≠ g → w'.heap[k]? = w.heap[k]?) : IsWaitsN base ws v w' := by
  obtain ⟨A, c, xs, e, hx, hV⟩ := h
  exact ⟨A, c, xs, e, hx, hV.farT hg (by decide) hn hz hk⟩
theorem IsWaitsN.alloc {base : Nat} {ws : List Wt} {v : Value} {w : World} (h : IsWaitsN base ws v w) (o : Obj) : IsWaitsN base ws v (w.alloc o) := h.grow ((Below.refl _ _).alloc (Nat.le_refl _) o)
theorem IsWaits.open_ {ws : List Wt} {u : Value} {w : World} (h : IsWaits ws u w) : ∃ A c xs, u = .slice A ws.length c ∧ xs.map (·.1) = ws ∧ WaitsAt w A xs ∧ ws.length ≤ 9223372036854775807 := by
  obtain ⟨A, c, xs, rfl, hx, hW, h1, h2⟩ := h
  exact ⟨A, c, xs, rfl, hx, hW, by simp only [maxLen] at h2; omega⟩
theorem lktick_u (l : Lk) (u : Value) (t : Int) (w : World) (hu : IsWaits l.waits u w) :
    Calls Try.prog 15 #[.agg #[.int .i64 l.period, .int .i64 l.most, .int .i64 l.quiet, .int .i64 l.heard, u], .int .i64 t] w (RetT (tickL l t) (tickO l t) (tickB l t) (heardE l t) w) := by
  obtain ⟨A, c, xs, rfl, hx, hW, hc⟩ := hu.open_
  exact lktick_k l A _ c xs t w hx rfl hW hc
theorem lkheard_u (l : Lk) (u : Value) (t : Int) (w : World) (hu : IsWaits l.waits u w) :
    Calls Try.prog 19 #[.agg #[.int .i64 l.period, .int .i64 l.most, .int .i64 l.quiet, .int .i64 l.heard, u], .int .i64 t] w (RetL (heardL l t) (heardE l t) w) := by
  obtain ⟨A, c, xs, rfl, hx, hW, hc⟩ := hu.open_
  exact lkheard_k l A _ c xs t w hx rfl hW hc
theorem lkacked_u (l : Lk) (u : Value) (t : Int) (w : World) (hu : IsWaits l.waits u w) (hlo : -9223372036854775808 ≤ t) (hhi : t ≤ 9223372036854775807) :
    Calls Try.prog 14 #[.agg #[.int .i64 l.period, .int .i64 l.most, .int .i64 l.quiet, .int .i64 l.heard, u], .int .i64 t] w (RetL (ackedL l t) (ackedE l t) w) := by
  obtain ⟨A, c, xs, rfl, hx, hW, hc⟩ := hu.open_
  exact lkacked_k l A _ c xs t w hx rfl hW hc hlo hhi
theorem lksent_u (l : Lk) (u : Value) (t now : Int) (b : Value) (body : List UInt8) (w : World) (hu : IsWaits l.waits u w) (hb : IsBytes body b w) (hlo : -9223372036854775808 ≤ t) (hhi : t ≤ 9223372036854775807) :
    Calls Try.prog 16 #[.agg #[.int .i64 l.period, .int .i64 l.most, .int .i64 l.quiet, .int .i64 l.heard, u], .int .i64 t, .int .i64 now, b] w (RetL (sentL l t now body) (sentE l t now body) w) := by
  obtain ⟨A, c, xs, rfl, hx, hW, hc⟩ := hu.open_
  obtain ⟨Ab, cb, rfl, hB⟩ := hb
  exact lksent_k l A _ c xs t now Ab _ cb body w hx rfl hW hc hlo hhi rfl hB
theorem lkmay_u (l : Lk) (u : Value) (w : World) (hu : IsWaits l.waits u w) :
    Calls Try.prog 13 #[.agg #[.int .i64 l.period, .int .i64 l.most, .int .i64 l.quiet, .int .i64 l.heard, u]] w fun e w' => e = .returned (.bool (mayL l)) ∧ Below w.heap.size w w' := by
  obtain ⟨A, c, xs, rfl, hx, hW, hc⟩ := hu.open_
  exact lkmay_k l A _ c xs w hx rfl hW hc
theorem one_byte {w : World} {g : Nat} (h : Blk w g 5 #[.int .u8 7]) : IsBytes [7] (.slice (some ⟨g, 0, none⟩) 1 1) w := ⟨_, _, rfl, Row.block (cs := #[q8 7]) h, Nat.le_refl _, by decide⟩
set_option maxRecDepth 100000 in
set_option maxHeartbeats 8000000 in
theorem awake12_any (w : World) : Calls Try.prog 8 #[] w fun e w' => e = .returned (.bool true) ∧ Below w.heap.size w w' := by
  have c1 : ∀ W, Calls Try.prog 9 #[.int .i64 10, .int .i64 2, .int .i64 50, .int .i64 0] W fun e w' => ∃ A' c', e = .returned (.tuple #[.agg #[.int .i64 10, .int .i64 2, .int .i64 50, .int .i64 0, (.slice A' 0 c')], .int .i64 0]) ∧ IsWaitsN W.heap.size [] (.slice A' 0 c') w' ∧ Below W.heap.size W w' := fun W => by
    refine (lknew_k 10 2 50 0 W).mono ?_
    rintro e w' ⟨v, rfl, hv, hb⟩
    rw [show newL 10 2 50 0 = ⟨10, 2, 50, 0, []⟩ by kernel_rfl] at hv
    rw [show newE 10 2 50 0 = 0 by kernel_rfl]
    obtain ⟨u', rfl, A', c', xs', rfl, hx', hV'⟩ := hv
    exact ⟨A', c', rfl, ⟨A', c', xs', rfl, hx', hV'⟩, hb⟩
  have c2 : ∀ W u b, IsWaits [] u W → IsBytes [7] b W → Calls Try.prog 16 #[.agg #[.int .i64 10, .int .i64 2, .int .i64 50, .int .i64 0, u], .int .i64 5, .int .i64 0, b] W fun e w' => ∃ A' c', e = .returned (.tuple #[.agg #[.int .i64 10, .int .i64 2, .int .i64 50, .int .i64 0, (.slice A' 1 c')], .int .i64 0]) ∧ IsWaitsN W.heap.size [⟨5, 10, 0, [7]⟩] (.slice A' 1 c') w' ∧ Below W.heap.size W w' := fun W u b hu hb => by
    refine (lksent_u ⟨10, 2, 50, 0, []⟩ u 5 0 b [7] W hu hb (by decide) (by decide)).mono ?_
    rintro e w' ⟨v, rfl, hv, hb⟩
    rw [show sentL ⟨10, 2, 50, 0, []⟩ 5 0 [7] = ⟨10, 2, 50, 0, [⟨5, 10, 0, [7]⟩]⟩ by kernel_rfl] at hv
    rw [show sentE ⟨10, 2, 50, 0, []⟩ 5 0 [7] = 0 by kernel_rfl]
    obtain ⟨u', rfl, A', c', xs', rfl, hx', hV'⟩ := hv
    exact ⟨A', c', rfl, ⟨A', c', xs', rfl, hx', hV'⟩, hb⟩
  have c3 : ∀ W u, IsWaits [⟨5, 10, 0, [7]⟩] u W → Calls Try.prog 15 #[.agg #[.int .i64 10, .int .i64 2, .int .i64 50, .int .i64 0, u], .int .i64 9] W fun e w' => ∃ A' c' A c, e = .returned (.tuple #[.agg #[.int .i64 10, .int .i64 2, .int .i64 50, .int .i64 0, (.slice A' 1 c')], .slice A 0 c, .bool false, .int .i64 0]) ∧ IsWaitsN W.heap.size [⟨5, 10, 0, [7]⟩] (.slice A' 1 c') w' ∧ Below W.heap.size W w' := fun W u hu => by
    refine (lktick_u ⟨10, 2, 50, 0, [⟨5, 10, 0, [7]⟩]⟩ u 9 W hu).mono ?_
    rintro e w' ⟨v, o, rfl, hv, ho, hb⟩
    rw [show tickL ⟨10, 2, 50, 0, [⟨5, 10, 0, [7]⟩]⟩ 9 = ⟨10, 2, 50, 0, [⟨5, 10, 0, [7]⟩]⟩ by kernel_rfl] at hv
    obtain ⟨A, c, vs, rfl, _, _, _⟩ := ho
    rw [show (tickO ⟨10, 2, 50, 0, [⟨5, 10, 0, [7]⟩]⟩ 9).length = 0 by kernel_rfl, show tickB ⟨10, 2, 50, 0, [⟨5, 10, 0, [7]⟩]⟩ 9 = false by kernel_rfl, show heardE ⟨10, 2, 50, 0, [⟨5, 10, 0, [7]⟩]⟩ 9 = 0 by kernel_rfl]
    obtain ⟨u', rfl, A', c', xs', rfl, hx', hV'⟩ := hv
    exact ⟨A', c', A, c, rfl, ⟨A', c', xs', rfl, hx', hV'⟩, hb⟩
  have c4 : ∀ W u, IsWaits [⟨5, 10, 0, [7]⟩] u W → Calls Try.prog 15 #[.agg #[.int .i64 10, .int .i64 2, .int .i64 50, .int .i64 0, u], .int .i64 10] W fun e w' => ∃ A' c' A c, e = .returned (.tuple #[.agg #[.int .i64 10, .int .i64 2, .int .i64 50, .int .i64 0, (.slice A' 1 c')], .slice A 1 c, .bool false, .int .i64 0]) ∧ IsWaitsN W.heap.size [⟨5, 20, 1, [7]⟩] (.slice A' 1 c') w' ∧ Below W.heap.size W w' := fun W u hu => by
    refine (lktick_u ⟨10, 2, 50, 0, [⟨5, 10, 0, [7]⟩]⟩ u 10 W hu).mono ?_
    rintro e w' ⟨v, o, rfl, hv, ho, hb⟩
    rw [show tickL ⟨10, 2, 50, 0, [⟨5, 10, 0, [7]⟩]⟩ 10 = ⟨10, 2, 50, 0, [⟨5, 20, 1, [7]⟩]⟩ by kernel_rfl] at hv
    obtain ⟨A, c, vs, rfl, _, _, _⟩ := ho
    rw [show (tickO ⟨10, 2, 50, 0, [⟨5, 10, 0, [7]⟩]⟩ 10).length = 1 by kernel_rfl, show tickB ⟨10, 2, 50, 0, [⟨5, 10, 0, [7]⟩]⟩ 10 = false by kernel_rfl, show heardE ⟨10, 2, 50, 0, [⟨5, 10, 0, [7]⟩]⟩ 10 = 0 by kernel_rfl]
    obtain ⟨u', rfl, A', c', xs', rfl, hx', hV'⟩ := hv
    exact ⟨A', c', A, c, rfl, ⟨A', c', xs', rfl, hx', hV'⟩, hb⟩
  have c5 : ∀ W u, IsWaits [⟨5, 20, 1, [7]⟩] u W → Calls Try.prog 15 #[.agg #[.int .i64 10, .int .i64 2, .int .i64 50, .int .i64 0, u], .int .i64 20] W fun e w' => ∃ A' c' A c, e = .returned (.tuple #[.agg #[.int .i64 10, .int .i64 2, .int .i64 50, .int .i64 0, (.slice A' 1 c')], .slice A 1 c, .bool false, .int .i64 0]) ∧ IsWaitsN W.heap.size [⟨5, 30, 2, [7]⟩] (.slice A' 1 c') w' ∧ Below W.heap.size W w' := fun W u hu => by
    refine (lktick_u ⟨10, 2, 50, 0, [⟨5, 20, 1, [7]⟩]⟩ u 20 W hu).mono ?_
    rintro e w' ⟨v, o, rfl, hv, ho, hb⟩
    rw [show tickL ⟨10, 2, 50, 0, [⟨5, 20, 1, [7]⟩]⟩ 20 = ⟨10, 2, 50, 0, [⟨5, 30, 2, [7]⟩]⟩ by kernel_rfl] at hv
    obtain ⟨A, c, vs, rfl, _, _, _⟩ := ho
    rw [show (tickO ⟨10, 2, 50, 0, [⟨5, 20, 1, [7]⟩]⟩ 20).length = 1 by kernel_rfl, show tickB ⟨10, 2, 50, 0, [⟨5, 20, 1, [7]⟩]⟩ 20 = false by kernel_rfl, show heardE ⟨10, 2, 50, 0, [⟨5, 20, 1, [7]⟩]⟩ 20 = 0 by kernel_rfl]
    obtain ⟨u', rfl, A', c', xs', rfl, hx', hV'⟩ := hv
    exact ⟨A', c', A, c, rfl, ⟨A', c', xs', rfl, hx', hV'⟩, hb⟩
  have c6 : ∀ W u, IsWaits [⟨5, 30, 2, [7]⟩] u W → Calls Try.prog 15 #[.agg #[.int .i64 10, .int .i64 2, .int .i64 50, .int .i64 0, u], .int .i64 30] W fun e w' => ∃ A' c' A c, e = .returned (.tuple #[.agg #[.int .i64 10, .int .i64 2, .int .i64 50, .int .i64 0, (.slice A' 1 c')], .slice A 0 c, .bool true, .int .i64 0]) ∧ IsWaitsN W.heap.size [⟨5, 30, 2, [7]⟩] (.slice A' 1 c') w' ∧ Below W.heap.size W w' := fun W u hu => by
    refine (lktick_u ⟨10, 2, 50, 0, [⟨5, 30, 2, [7]⟩]⟩ u 30 W hu).mono ?_
    rintro e w' ⟨v, o, rfl, hv, ho, hb⟩
    rw [show tickL ⟨10, 2, 50, 0, [⟨5, 30, 2, [7]⟩]⟩ 30 = ⟨10, 2, 50, 0, [⟨5, 30, 2, [7]⟩]⟩ by kernel_rfl] at hv
    obtain ⟨A, c, vs, rfl, _, _, _⟩ := ho
    rw [show (tickO ⟨10, 2, 50, 0, [⟨5, 30, 2, [7]⟩]⟩ 30).length = 0 by kernel_rfl, show tickB ⟨10, 2, 50, 0, [⟨5, 30, 2, [7]⟩]⟩ 30 = true by kernel_rfl, show heardE ⟨10, 2, 50, 0, [⟨5, 30, 2, [7]⟩]⟩ 30 = 0 by kernel_rfl]
    obtain ⟨u', rfl, A', c', xs', rfl, hx', hV'⟩ := hv
    exact ⟨A', c', A, c, rfl, ⟨A', c', xs', rfl, hx', hV'⟩, hb⟩
  have c7 : ∀ W u, IsWaits [⟨5, 10, 0, [7]⟩] u W → Calls Try.prog 14 #[.agg #[.int .i64 10, .int .i64 2, .int .i64 50, .int .i64 0, u], .int .i64 5] W fun e w' => ∃ A' c', e = .returned (.tuple #[.agg #[.int .i64 10, .int .i64 2, .int .i64 50, .int .i64 0, (.slice A' 0 c')], .int .i64 0]) ∧ IsWaitsN W.heap.size [] (.slice A' 0 c') w' ∧ Below W.heap.size W w' := fun W u hu => by
    refine (lkacked_u ⟨10, 2, 50, 0, [⟨5, 10, 0, [7]⟩]⟩ u 5 W hu (by decide) (by decide)).mono ?_
    rintro e w' ⟨v, rfl, hv, hb⟩
    rw [show ackedL ⟨10, 2, 50, 0, [⟨5, 10, 0, [7]⟩]⟩ 5 = ⟨10, 2, 50, 0, []⟩ by kernel_rfl] at hv
    rw [show ackedE ⟨10, 2, 50, 0, [⟨5, 10, 0, [7]⟩]⟩ 5 = 0 by kernel_rfl]
    obtain ⟨u', rfl, A', c', xs', rfl, hx', hV'⟩ := hv
    exact ⟨A', c', rfl, ⟨A', c', xs', rfl, hx', hV'⟩, hb⟩
  have c8 : ∀ W u, IsWaits [] u W → Calls Try.prog 15 #[.agg #[.int .i64 10, .int .i64 2, .int .i64 50, .int .i64 0, u], .int .i64 30] W fun e w' => ∃ A' c' A c, e = .returned (.tuple #[.agg #[.int .i64 10, .int .i64 2, .int .i64 50, .int .i64 0, (.slice A' 0 c')], .slice A 0 c, .bool false, .int .i64 0]) ∧ IsWaitsN W.heap.size [] (.slice A' 0 c') w' ∧ Below W.heap.size W w' := fun W u hu => by
    refine (lktick_u ⟨10, 2, 50, 0, []⟩ u 30 W hu).mono ?_
    rintro e w' ⟨v, o, rfl, hv, ho, hb⟩
    rw [show tickL ⟨10, 2, 50, 0, []⟩ 30 = ⟨10, 2, 50, 0, []⟩ by kernel_rfl] at hv
    obtain ⟨A, c, vs, rfl, _, _, _⟩ := ho
    rw [show (tickO ⟨10, 2, 50, 0, []⟩ 30).length = 0 by kernel_rfl, show tickB ⟨10, 2, 50, 0, []⟩ 30 = false by kernel_rfl, show heardE ⟨10, 2, 50, 0, []⟩ 30 = 0 by kernel_rfl]
    obtain ⟨u', rfl, A', c', xs', rfl, hx', hV'⟩ := hv
    exact ⟨A', c', A, c, rfl, ⟨A', c', xs', rfl, hx', hV'⟩, hb⟩
  have c9 : ∀ W u, IsWaits [] u W → Calls Try.prog 15 #[.agg #[.int .i64 10, .int .i64 2, .int .i64 50, .int .i64 0, u], .int .i64 51] W fun e w' => ∃ A' c' A c, e = .returned (.tuple #[.agg #[.int .i64 10, .int .i64 2, .int .i64 50, .int .i64 0, (.slice A' 0 c')], .slice A 0 c, .bool true, .int .i64 0]) ∧ IsWaitsN W.heap.size [] (.slice A' 0 c') w' ∧ Below W.heap.size W w' := fun W u hu => by
    refine (lktick_u ⟨10, 2, 50, 0, []⟩ u 51 W hu).mono ?_
    rintro e w' ⟨v, o, rfl, hv, ho, hb⟩
    rw [show tickL ⟨10, 2, 50, 0, []⟩ 51 = ⟨10, 2, 50, 0, []⟩ by kernel_rfl] at hv
    obtain ⟨A, c, vs, rfl, _, _, _⟩ := ho
    rw [show (tickO ⟨10, 2, 50, 0, []⟩ 51).length = 0 by kernel_rfl, show tickB ⟨10, 2, 50, 0, []⟩ 51 = true by kernel_rfl, show heardE ⟨10, 2, 50, 0, []⟩ 51 = 0 by kernel_rfl]
    obtain ⟨u', rfl, A', c', xs', rfl, hx', hV'⟩ := hv
    exact ⟨A', c', A, c, rfl, ⟨A', c', xs', rfl, hx', hV'⟩, hb⟩
  go_enter Try.func8, Try.ntmps8
  go_wp2_with (first
    | (go_at_call 9; (with_reducible refine (c1 _).mono ?_); rintro e w1 ⟨B1, d1, rfl, hu1, hb1⟩; have hO := ((Own.nil w).grow hb1).new0 25 #[.int .i64 10, .int .i64 2, .int .i64 50, .int .i64 0, (.slice B1 0 d1)]; replace hu1 := hu1.alloc (.cells #[.int .i64 10, .int .i64 2, .int .i64 50, .int .i64 0, (.slice B1 0 d1)] 25); clear c1)
    | ((with_reducible refine own_loadg0 hO ?_ _ rfl rfl _ Try.underlying25 rfl (by kernel_rfl) ?_); (· first | rfl | (simp [Region.wanted, yielded]; done)))
    | (go_at_call 16; go_loud (with_reducible refine (c2 _ (.slice B1 0 d1) _ (hu1.alloc _).is (one_byte (Blk.newAt _ _ _ (w1.heap.size + 1) (by simp)))).mono ?_); rintro e w2 ⟨B2, d2, rfl, hN2, hb2⟩; replace hO := hO.grow (below_of_alloc hb2); clear c2 hu1)
    | ((with_reducible refine own_row0 #[.int .i64 10, .int .i64 2, .int .i64 50, .int .i64 0, (.slice B2 1 d2)] hO rfl _ _ rfl rfl rfl (by kernel_rfl) rfl ?_ ?_); (· (simp [Value.oneCell']; done)); intro wR hOR hszR hkR; replace hN2 := hN2.farT hO.b0 (by simp [is8]) hszR hkR; replace hO := hOR; clear hOR hszR hkR)
    | (go_at_call 15; (with_reducible refine (c3 _ (.slice B2 1 d2) hN2.is).mono ?_); rintro e w3 ⟨B3, d3, A3, cc3, rfl, hu3, hb3⟩; replace hO := (hO.grow hb3).new1 25 #[.int .i64 10, .int .i64 2, .int .i64 50, .int .i64 0, (.slice B3 1 d3)]; replace hN2 := (hN2.grow hb3).alloc (.cells #[.int .i64 10, .int .i64 2, .int .i64 50, .int .i64 0, (.slice B3 1 d3)] 25); clear c3 hu3 hb3)
    | (go_at_call 15; (with_reducible refine (c4 _ (.slice B2 1 d2) hN2.is).mono ?_); rintro e w4 ⟨B4, d4, A4, cc4, rfl, hN4, hb4⟩; replace hO := (hO.grow hb4).new2 25 #[.int .i64 10, .int .i64 2, .int .i64 50, .int .i64 0, (.slice B4 1 d4)]; replace hN2 := (hN2.grow hb4).alloc (.cells #[.int .i64 10, .int .i64 2, .int .i64 50, .int .i64 0, (.slice B4 1 d4)] 25); replace hN4 := hN4.alloc (.cells #[.int .i64 10, .int .i64 2, .int .i64 50, .int .i64 0, (.slice B4 1 d4)] 25); clear c4 hb4)
    | ((with_reducible refine own_loadg2 hO ?_ _ rfl rfl _ Try.underlying25 rfl (by kernel_rfl) ?_); (· first | rfl | (simp [Region.wanted, yielded]; done)))
    | (go_at_call 15; (with_reducible refine (c5 _ (.slice B4 1 d4) hN4.is).mono ?_); rintro e w5 ⟨B5, d5, A5, cc5, rfl, hN5, hb5⟩; replace hO := hO.grow hb5; replace hN2 := hN2.grow hb5; clear c5 hN4 hb5)
    | ((with_reducible refine own_row2 #[.int .i64 10, .int .i64 2, .int .i64 50, .int .i64 0, (.slice B5 1 d5)] hO rfl _ _ rfl rfl rfl (by kernel_rfl) rfl ?_ ?_); (· (simp [Value.oneCell']; done)); intro wR hOR hszR hkR; replace hN2 := hN2.farT hO.b2 (by simp [is8]) hszR hkR; replace hN5 := hN5.farT hO.b2 (by simp [is8]) hszR hkR; replace hO := hOR; clear hOR hszR hkR)
    | (go_at_call 15; (with_reducible refine (c6 _ (.slice B5 1 d5) hN5.is).mono ?_); rintro e w6 ⟨B6, d6, A6, cc6, rfl, hu6, hb6⟩; replace hO := (hO.grow hb6).new3 25 #[.int .i64 10, .int .i64 2, .int .i64 50, .int .i64 0, (.slice B6 1 d6)]; replace hN2 := (hN2.grow hb6).alloc (.cells #[.int .i64 10, .int .i64 2, .int .i64 50, .int .i64 0, (.slice B6 1 d6)] 25); clear c6 hN5 hu6 hb6)
    | (go_at_call 14; (with_reducible refine (c7 _ (.slice B2 1 d2) hN2.is).mono ?_); rintro e w7 ⟨B7, d7, rfl, hN7, hb7⟩; replace hO := (hO.grow hb7).new4 25 #[.int .i64 10, .int .i64 2, .int .i64 50, .int .i64 0, (.slice B7 0 d7)]; replace hN7 := hN7.alloc (.cells #[.int .i64 10, .int .i64 2, .int .i64 50, .int .i64 0, (.slice B7 0 d7)] 25); clear c7 hN2 hb7)
    | ((with_reducible refine own_loadg4 hO ?_ _ rfl rfl _ Try.underlying25 rfl (by kernel_rfl) ?_); (· first | rfl | (simp [Region.wanted, yielded]; done)))
    | (go_at_call 15; (with_reducible refine (c8 _ (.slice B7 0 d7) hN7.is).mono ?_); rintro e w8 ⟨B8, d8, A8, cc8, rfl, hu8, hb8⟩; replace hO := (hO.grow hb8).new5 25 #[.int .i64 10, .int .i64 2, .int .i64 50, .int .i64 0, (.slice B8 0 d8)]; replace hN7 := (hN7.grow hb8).alloc (.cells #[.int .i64 10, .int .i64 2, .int .i64 50, .int .i64 0, (.slice B8 0 d8)] 25); clear c8 hu8 hb8)
    | (go_at_call 15; (with_reducible refine (c9 _ (.slice B7 0 d7) hN7.is).mono ?_); rintro e w9 ⟨B9, d9, A9, cc9, rfl, hu9, hb9⟩; replace hO := (hO.grow hb9).new6 25 #[.int .i64 10, .int .i64 2, .int .i64 50, .int .i64 0, (.slice B9 0 d9)]; clear c9 hu9 hb9 hN7)
    )
  go_ret
  exact ⟨rfl, hO.below⟩
end Go.Proofs.Ytiloammjejggjaa
