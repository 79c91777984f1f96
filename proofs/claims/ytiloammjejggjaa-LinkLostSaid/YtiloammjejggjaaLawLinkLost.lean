/- LinkLost: a message that is not acknowledged is told when it is due, as often as may be, and then the other side is lost. -/
import Derived.Test.YtiloammjejggjaaLinkAwake
import Derived.Test.YtiloammjejggjaaBytesIn
import Derived.Deep.QuietTactic
import Derived.BigQuiet
import Derived.IntWalk
set_option linter.unusedSimpArgs false
set_option linter.unusedVariables false
namespace Go.Proofs.Ytiloammjejggjaa
open Go.ChangeShapes Go.WideShapes Go.ChangeAt Go.RowKit
open Go.ChangeMaps (open_string shut_string)

/-- The time k periods on. -/
def tkP (now p : Int) (k : Nat) : Int := now + (k : Int) * p
theorem tkP_succ (now p : Int) (k : Nat) : tkP now p (k + 1) = tkP now p k + p := by
  unfold tkP
  rw [Int.natCast_add, Int.add_mul]
  omega
theorem tkP_bounds {now p : Int} (h1 : 0 ≤ now) (h2 : now ≤ 2147483648) (h3 : 1 ≤ p) (h4 : p ≤ 1048576) (k : Nat) (hk : k ≤ 22) : now ≤ tkP now p k ∧ tkP now p k ≤ 2170552320 ∧ 0 ≤ (k : Int) * p ∧ (k : Int) * p ≤ 23068672 := by
  have hp : (k : Int) * p ≤ (k : Int) * 1048576 := Int.mul_le_mul_of_nonneg_left h4 (by omega)
  have hp2 : 0 ≤ (k : Int) * p := Int.mul_nonneg (by omega) (by omega)
  unfold tkP
  omega
def lostL1 (p m q h d : Int) (k : Nat) (body : List UInt8) : Lk := ⟨p, m, q, h, [⟨9, d, k, body⟩]⟩
theorem lost_may {p m q now : Int} {body : List UInt8} (h0 : mayL ⟨p, m, q, now, []⟩ = true) (hs : isSized body = true) {h d : Int} {k : Nat} (hk : (k : Int) ≤ m) (h1 : 0 ≤ h) (h2 : h ≤ 4294967294) (h3 : 0 ≤ d) (h4 : d ≤ 8589934592) : mayL (lostL1 p m q h d k body) = true := by
  obtain ⟨a1, a2, a3, a4, a5, a6, _, _⟩ := mayL_head h0
  simp only at a1 a2 a3 a4 a5 a6
  have hh : headOk (lostL1 p m q h d k body) = true := headOk_iff.2 ⟨a1, a2, a3, a4, a5, a6, isTime_iff.2 ⟨h1, h2⟩, by simp [lostL1]⟩
  have hw : wtOk m (-1) ⟨9, d, k, body⟩ = true := wtOk_iff.2 ⟨(show isTime 9 = true by decide), by simp, h3, h4, by simp, hk, hs⟩
  show (headOk (lostL1 p m q h d k body) && wtsOk m (-1) [⟨9, d, k, body⟩]) = true
  rw [hh]
  simp [wtsOk, hw]
theorem lost_heard {p m q now : Int} {body : List UInt8} (h0 : mayL ⟨p, m, q, now, []⟩ = true) (hs : isSized body = true) {h d t : Int} {k : Nat} (hk : (k : Int) ≤ m) (h1 : 0 ≤ h) (h2 : h ≤ t) (h3 : 0 ≤ d) (h4 : d ≤ 8589934592) (ht : t ≤ 4294967294) : heardE (lostL1 p m q h d k body) t = 0 ∧ heardL (lostL1 p m q h d k body) t = lostL1 p m q t d k body := by
  have e : heardE (lostL1 p m q h d k body) t = 0 := by
    unfold heardE
    rw [lost_may h0 hs hk h1 (by omega) h3 h4, isTime_iff.2 ⟨by omega, ht⟩]
    rfl
  refine ⟨e, ?_⟩
  unfold heardL
  rw [if_pos e]
  simp only [lostL1, Lk.mk.injEq, and_true, true_and]
  omega
theorem lost_tick {p m q now : Int} {body : List UInt8} (h0 : mayL ⟨p, m, q, now, []⟩ = true) (hs : isSized body = true) {t : Int} {k : Nat} (hk : (k : Int) < m) (h1 : 0 ≤ t) (ht : t ≤ 4294967294) :
    heardE (lostL1 p m q t t k body) t = 0 ∧ tickL (lostL1 p m q t t k body) t = lostL1 p m q t (t + p) (k + 1) body ∧ tickO (lostL1 p m q t t k body) t = [body] ∧ tickB (lostL1 p m q t t k body) t = false := by
  obtain ⟨a1, a2, a3, a4, a5, a6, _, _⟩ := mayL_head h0
  simp only at a1 a2 a3 a4 a5 a6
  have e : heardE (lostL1 p m q t t k body) t = 0 := (lost_heard h0 hs (by omega) h1 (Int.le_refl _) h1 (by omega) ht).1
  have l : lostL (lostL1 p m q t t k body) t = false := by
    have e1 : decide (t + q < t) = false := by simp; omega
    have e2 : decide ((k : Int) = m) = false := by simp; omega
    have e3 : spentP t m ⟨9, t, k, body⟩ = false := by unfold spentP; rw [e2]; simp
    show (decide (t + q < t) || [(⟨9, t, k, body⟩ : Wt)].any (spentP t m)) = false
    rw [e1]
    simp [e3]
  refine ⟨e, ?_, ?_, ?_⟩
  · unfold tickL
    rw [if_pos e, l]
    simp [lostL1, tick1, bump]
  · unfold tickO
    rw [if_pos e, l]
    simp [lostL1, againW]
  · unfold tickB
    rw [if_pos e, l]
theorem lost_end {p m q now : Int} {body : List UInt8} (h0 : mayL ⟨p, m, q, now, []⟩ = true) (hs : isSized body = true) {t : Int} {k : Nat} (hk : (k : Int) = m) (h1 : 0 ≤ t) (ht : t ≤ 4294967294) :
    heardE (lostL1 p m q t t k body) t = 0 ∧ tickL (lostL1 p m q t t k body) t = lostL1 p m q t t k body ∧ tickO (lostL1 p m q t t k body) t = [] ∧ tickB (lostL1 p m q t t k body) t = true := by
  have e : heardE (lostL1 p m q t t k body) t = 0 := (lost_heard h0 hs (by omega) h1 (Int.le_refl _) h1 (by omega) ht).1
  have l : lostL (lostL1 p m q t t k body) t = true := by
    simp [lostL, lostL1, spentP, hk]
  refine ⟨e, ?_, ?_, ?_⟩
  · unfold tickL
    rw [if_pos e, l]
    rfl
  · unfold tickO
    rw [if_pos e, l]
    rfl
  · unfold tickB
    rw [if_pos e, l]
theorem lost_sent {p m q now : Int} {body : List UInt8} (h0 : mayL ⟨p, m, q, now, []⟩ = true) (hs : isSized body = true) : sentE ⟨p, m, q, now, []⟩ 9 now body = 0 ∧ sentL ⟨p, m, q, now, []⟩ 9 now body = lostL1 p m q now (now + p) 0 body := by
  obtain ⟨a1, a2, a3, a4, a5, a6, ⟨b1, b2⟩, _⟩ := mayL_head h0
  have e : sentE ⟨p, m, q, now, []⟩ 9 now body = 0 := by
    unfold sentE
    rw [h0, hs, isTime_iff.2 ⟨b1, b2⟩]
    rfl
  refine ⟨e, ?_⟩
  unfold sentL
  rw [if_pos e]
  rfl
set_option maxRecDepth 100000 in
set_option maxHeartbeats 8000000 in
theorem linkLost_walk (p : Int) (_ : -9223372036854775808 ≤ p) (_ : p ≤ 9223372036854775807) (m : Int) (_ : -9223372036854775808 ≤ m) (_ : m ≤ 9223372036854775807) (q : Int) (_ : -9223372036854775808 ≤ q) (_ : q ≤ 9223372036854775807) (now : Int) (hn1 : -9223372036854775808 ≤ now) (hn2 : now ≤ 9223372036854775807) (v : Value) (body : List UInt8) (w : World) (hv : IsBytes body v w) :
    Calls Try.prog 7 #[.int .i64 p, .int .i64 m, .int .i64 q, .int .i64 now, v] w fun e w' => e = .returned (.bool true) ∧ Below w.heap.size w w' := by
  obtain ⟨Ab, cb, rfl, hB⟩ := hv
  have hBl := hB.len_le
  have ha := fun W => lknew_k p m q now W
  unfold RetL newL newE at ha
  cases h0 : mayL ⟨p, m, q, now, []⟩ with
  | false =>
    rw [h0] at ha
    simp only [Bool.false_eq_true, if_false, if_neg (by decide : ¬ (1 : Int) = 0)] at ha
    have ha' : ∀ W, Calls Try.prog 9 #[.int .i64 p, .int .i64 m, .int .i64 q, .int .i64 now] W fun e w' => ∃ A c, e = .returned (.tuple #[.agg #[.int .i64 0, .int .i64 0, .int .i64 0, .int .i64 0, .slice A 0 c], .int .i64 1]) ∧ Below W.heap.size W w' := fun W => by
      refine (ha W).mono ?_
      rintro e w' ⟨v, rfl, ⟨u, rfl, A, c, xs, rfl, _⟩, hb⟩
      exact ⟨A, c, rfl, hb⟩
    clear ha h0
    go_enter Try.func7, Try.ntmps7
    go_wp2_with (first
      | (go_at_call 8; (with_reducible refine (awake12_any _).mono ?_); rintro e w1 ⟨rfl, hb1⟩; have hO : Own w w1 [] := (Own.nil w).grow hb1)
      | (go_at_call 9; (with_reducible refine (ha' _).mono ?_); rintro e w2 ⟨A2, c2, rfl, hb2⟩; replace hO := (hO.grow hb2).new0 25 #[.int .i64 0, .int .i64 0, .int .i64 0, .int .i64 0, .slice A2 0 c2]; clear ha'))
    go_ret
    exact ⟨rfl, hO.below⟩
  | true =>
    rw [h0] at ha
    simp only [if_true] at ha
    have ha' : ∀ W, Calls Try.prog 9 #[.int .i64 p, .int .i64 m, .int .i64 q, .int .i64 now] W fun e w' => ∃ A c, e = .returned (.tuple #[.agg #[.int .i64 p, .int .i64 m, .int .i64 q, .int .i64 now, .slice A 0 c], .int .i64 0]) ∧ IsWaitsN W.heap.size [] (.slice A 0 c) w' ∧ Below W.heap.size W w' := fun W => by
      refine (ha W).mono ?_
      rintro e w' ⟨v, rfl, ⟨u, rfl, A, c, xs, rfl, hr⟩, hb⟩
      exact ⟨A, c, rfl, ⟨A, c, xs, rfl, hr⟩, hb⟩
    clear ha
    by_cases hsz : isSized body = true ∧ now ≤ 2147483648
    · obtain ⟨hsb, hnow⟩ := hsz
      have hH := mayL_head h0
      simp only at hH
      obtain ⟨a1, a2, a3, a4, a5, a6, ⟨b1, b2⟩, _⟩ := hH
      obtain ⟨M, rfl⟩ : ∃ M : Nat, m = M := ⟨m.toNat, by omega⟩
      have hbl := isSized_iff.1 hsb
      have cS : ∀ W u b, IsWaits [] u W → IsBytes body b W → Calls Try.prog 16 #[.agg #[.int .i64 p, .int .i64 (M : Int), .int .i64 q, .int .i64 now, u], .int .i64 9, .int .i64 now, b] W fun e w' => ∃ A c, e = .returned (.tuple #[.agg #[.int .i64 p, .int .i64 (M : Int), .int .i64 q, .int .i64 now, .slice A 1 c], .int .i64 0]) ∧ IsWaitsN W.heap.size [⟨9, tkP now p 1, 0, body⟩] (.slice A 1 c) w' ∧ Below W.heap.size W w' := fun W u b hu hb => by
        obtain ⟨e1, e2⟩ := lost_sent h0 hsb
        refine (lksent_u ⟨p, M, q, now, []⟩ u 9 now b body W hu hb (by decide) (by decide)).mono ?_
        rintro e w' ⟨v, rfl, hv, hb⟩
        rw [e2] at hv
        rw [e1]
        obtain ⟨u', rfl, A, c, xs, rfl, hr⟩ := hv
        exact ⟨A, c, rfl, ⟨A, c, xs, rfl, by rw [show tkP now p 1 = now + p by simp [tkP]]; exact hr⟩, hb⟩
      have cH : ∀ (k : Nat) (h : Int), k ≤ M → now ≤ h → h ≤ tkP now p k → ∀ W u, IsWaits [⟨9, tkP now p (k + 1), k, body⟩] u W → Calls Try.prog 19 #[.agg #[.int .i64 p, .int .i64 (M : Int), .int .i64 q, .int .i64 h, u], .int .i64 (now + ((k : Int) + 1) * p)] W fun e w' => ∃ A c, e = .returned (.tuple #[.agg #[.int .i64 p, .int .i64 (M : Int), .int .i64 q, .int .i64 (now + ((k : Int) + 1) * p), .slice A 1 c], .int .i64 0]) ∧ IsWaitsN W.heap.size [⟨9, tkP now p (k + 1), k, body⟩] (.slice A 1 c) w' ∧ Below W.heap.size W w' := fun k h hk h1 h2 W u hu => by
        have q1 := tkP_bounds b1 hnow a1 a2 k (by omega)
        have q2 := tkP_bounds b1 hnow a1 a2 (k + 1) (by omega)
        have q3 := tkP_succ now p k
        have et : (now + ((k : Int) + 1) * p) = tkP now p (k + 1) := rfl
        rw [et]
        obtain ⟨e1, e2⟩ := lost_heard (t := tkP now p (k + 1)) (h := h) (d := tkP now p (k + 1)) (k := k) h0 hsb (by omega) (by omega) (by omega) (by omega) (by omega) (by omega)
        refine (lkheard_u (lostL1 p M q h (tkP now p (k + 1)) k body) u (tkP now p (k + 1)) W hu).mono ?_
        rintro e w' ⟨v, rfl, hv, hb⟩
        rw [e2] at hv
        rw [e1]
        obtain ⟨u', rfl, A, c, xs, rfl, hr⟩ := hv
        exact ⟨A, c, rfl, ⟨A, c, xs, rfl, hr⟩, hb⟩
      have cT : ∀ (k : Nat), k < M → ∀ W u, IsWaits [⟨9, tkP now p (k + 1), k, body⟩] u W → Calls Try.prog 15 #[.agg #[.int .i64 p, .int .i64 (M : Int), .int .i64 q, .int .i64 (now + ((k : Int) + 1) * p), u], .int .i64 (now + ((k : Int) + 1) * p)] W fun e w' => ∃ A c b off co Ax cx, e = .returned (.tuple #[.agg #[.int .i64 p, .int .i64 (M : Int), .int .i64 q, .int .i64 (now + ((k : Int) + 1) * p), .slice A 1 c], .slice (some ⟨b, off, none⟩) 1 co, .bool false, .int .i64 0]) ∧ IsWaitsN W.heap.size [⟨9, tkP now p (k + 2), (k + 1 : Nat), body⟩] (.slice A 1 c) w' ∧ b < w'.heap.size ∧ w'.cell? ⟨b, off, none⟩ = some (.slice Ax body.length cx) ∧ Bytes w' Ax cx body ∧ Below W.heap.size W w' := fun k hk W u hu => by
        have q2 := tkP_bounds b1 hnow a1 a2 (k + 1) (by omega)
        have q3 := tkP_succ now p (k + 1)
        have et : (now + ((k : Int) + 1) * p) = tkP now p (k + 1) := rfl
        rw [et]
        obtain ⟨e1, e2, e3, e4⟩ := lost_tick (t := tkP now p (k + 1)) (k := k) h0 hsb (by omega) (by omega) (by omega)
        refine (lktick_u (lostL1 p M q (tkP now p (k + 1)) (tkP now p (k + 1)) k body) u (tkP now p (k + 1)) W hu).mono ?_
        rintro e w' ⟨v, o, rfl, hv, ho, hb⟩
        rw [e2] at hv
        rw [e3] at ho
        rw [e1, e4]
        obtain ⟨u', rfl, A, c, xs, rfl, hr⟩ := hv
        obtain ⟨Ao, co, vs, rfl, hrow, hvl, hvb, _⟩ := ho
        simp only [List.length_cons, List.length_nil, Nat.zero_add] at hvl
        obtain ⟨z, rfl⟩ : ∃ z, vs = [z] := by
          match vs, hvl with
          | [z], _ => exact ⟨z, rfl⟩
        obtain ⟨b, off, rfl, hlt, hcz⟩ := hrow.at_ (k := 0) (u := z) rfl
        obtain ⟨Ax, cx, rfl, hBx⟩ := hvb 0 body z rfl rfl
        refine ⟨A, c, b, off, co, Ax, cx, rfl, ⟨A, c, xs, rfl, ?_⟩, hlt, by simpa using hcz, hBx, hb⟩
        rw [show k + 2 = k + 1 + 1 by omega, q3]
        exact hr
      have cE : ∀ W u, IsWaits [⟨9, tkP now p (M + 1), M, body⟩] u W → Calls Try.prog 15 #[.agg #[.int .i64 p, .int .i64 (M : Int), .int .i64 q, .int .i64 (now + ((M : Int) + 1) * p), u], .int .i64 (now + ((M : Int) + 1) * p)] W fun e w' => ∃ A c Ao co, e = .returned (.tuple #[.agg #[.int .i64 p, .int .i64 (M : Int), .int .i64 q, .int .i64 (now + ((M : Int) + 1) * p), .slice A 1 c], .slice Ao 0 co, .bool true, .int .i64 0]) ∧ Below W.heap.size W w' := fun W u hu => by
        have q2 := tkP_bounds b1 hnow a1 a2 (M + 1) (by omega)
        have et : (now + ((M : Int) + 1) * p) = tkP now p (M + 1) := rfl
        rw [et]
        obtain ⟨e1, e2, e3, e4⟩ := lost_end (t := tkP now p (M + 1)) (k := M) h0 hsb rfl (by omega) (by omega)
        refine (lktick_u (lostL1 p M q (tkP now p (M + 1)) (tkP now p (M + 1)) M body) u (tkP now p (M + 1)) W hu).mono ?_
        rintro e w' ⟨v, o, rfl, hv, ho, hb⟩
        rw [e2] at hv
        rw [e3] at ho
        rw [e1, e4]
        obtain ⟨u', rfl, A, c, xs, rfl, hr⟩ := hv
        obtain ⟨Ao, co, vs, rfl, _⟩ := ho
        exact ⟨A, c, Ao, co, rfl, hb⟩
      have d1 : decide ((body.length : Int) < 1) = false := by simp; omega
      have d2 : decide ((1023 : Int) < body.length) = false := by simp; omega
      have d3 : decide (2147483648 < now) = false := by simp; omega
      have HB := fun (k : Nat) (hk : k ≤ 22) => tkP_bounds b1 hnow a1 a2 k hk
      clear h0 hsb
      obtain ⟨nb, hnb⟩ : ∃ nb, nb = body.length := ⟨_, rfl⟩
      rw [← hnb] at d1 d2
      rw [← hnb] at cT
      have HNB := Lib.hid hnb
      have hB' := hB
      rw [← hnb] at hbl
      rw [show Value.slice Ab body.length cb = .slice Ab nb cb by rw [hnb]]
      clear hnb
      have hIB : ∀ W, Below w.heap.size w W → IsBytes body (.slice Ab nb cb) W := fun W hb => ⟨Ab, cb, by rw [← HNB.out], hB.below hb⟩
      go_enter Try.func7, Try.ntmps7
      go_wp2_with (first
        | (go_at_call 8; (with_reducible refine (awake12_any _).mono ?_); rintro e w1 ⟨rfl, hb1⟩; have hO : Own w w1 [] := (Own.nil w).grow hb1)
        | (go_at_call 9; (with_reducible refine (ha' _).mono ?_); rintro e w2 ⟨A2, c2, rfl, hu2, hb2⟩; replace hO := (hO.grow hb2).new0 25 #[.int .i64 p, .int .i64 (M : Int), .int .i64 q, .int .i64 now, .slice A2 0 c2]; replace hu2 := hu2.alloc (.cells #[.int .i64 p, .int .i64 (M : Int), .int .i64 q, .int .i64 now, .slice A2 0 c2] 25); clear ha')
        | ((with_reducible refine own_loadg0 hO ?_ _ rfl rfl _ Try.underlying25 rfl (by kernel_rfl) ?_); (· first | rfl | (simp [Region.wanted, yielded]; done)))
        | (go_at_call 16; (with_reducible refine (cS _ (.slice A2 0 c2) (.slice Ab nb cb) hu2.is (hIB _ hO.below)).mono ?_); rintro e w3 ⟨A3, c3, rfl, hu3, hb3⟩; have hbs := hO.b0.lt; replace hO := hO.grow hb3; replace hu3 := hu3.mono (base' := w2.heap.size + 1) hbs; clear cS hu2 hbs)
        | ((with_reducible refine own_row0 #[.int .i64 p, .int .i64 (M : Int), .int .i64 q, .int .i64 now, .slice A3 1 c3] hO rfl _ _ rfl rfl rfl (by kernel_rfl) rfl ?_ ?_); (· (simp [Value.oneCell']; done)); intro wR hOR hszR hkR; replace hu3 := hu3.farT hO.b0 (by simp [is8]) hszR hkR; replace hO := hOR; clear hOR hszR hkR)
        )
      go_loopw [15] (fun i wr => ∃ (k : Nat) (h : Int) (A : Option Addr) (c : Nat), k ≤ M ∧ i = .int .i64 ((k : Int) + 1) ∧ now ≤ h ∧ h ≤ tkP now p k ∧ Own w wr [(w2.heap.size, 25, #[.int .i64 p, .int .i64 (M : Int), .int .i64 q, .int .i64 h, .slice A 1 c])] ∧ IsWaitsN (w2.heap.size + 1) [⟨9, tkP now p (k + 1), k, body⟩] (.slice A 1 c) wr) (fun i _ => M + 1 - (intOf i).toNat)
      case atStart => exact ⟨0, now, A3, c3, Nat.zero_le _, by simp, by omega, by simp [tkP], hO, hu3⟩
      case round =>
        clear hO hu3
        obtain ⟨k, h, A, c, hk, rfl, hh1, hh2, hO, hu⟩ := hrel
        have hb := HB (k + 1) (by omega)
        have hb3 : 0 ≤ ((k : Int) + 1) * p := hb.2.2.1
        have hb4 : ((k : Int) + 1) * p ≤ 23068672 := hb.2.2.2
        clear hb
        have cHk := cH k h hk hh1 hh2
        clear cH
        by_cases hlt : k < M
        · have cTk := cT k hlt
          clear cT cE
          have hd5 : decide ((k : Int) + 1 ≤ (M : Int)) = true := by simp; omega
          obtain ⟨s1, hs1⟩ : ∃ s1, s1 = strOf body := ⟨_, rfl⟩
          replace hs1 := Lib.hid hs1
          go_wp2_with (first
            | ((with_reducible refine own_loadg0 hO ?_ _ rfl rfl _ Try.underlying25 rfl (by kernel_rfl) ?_); (· first | rfl | (simp [Region.wanted, yielded]; done)))
            | (go_at_call 19; (with_reducible refine (cHk _ _ hu.is).mono ?_); rintro e w3 ⟨A4, c4, rfl, hu4, hb4⟩; replace hO := (hO.grow hb4).new1 25 #[.int .i64 p, .int .i64 (M : Int), .int .i64 q, .int .i64 (now + ((k : Int) + 1) * p), .slice A4 1 c4]; replace hu4 := hu4.alloc (.cells #[.int .i64 p, .int .i64 (M : Int), .int .i64 q, .int .i64 (now + ((k : Int) + 1) * p), .slice A4 1 c4] 25); clear cHk hu)
            | ((with_reducible refine own_loadg1 hO ?_ _ rfl rfl _ Try.underlying25 rfl (by kernel_rfl) ?_); (· first | rfl | (simp [Region.wanted, yielded]; done)))
            | (go_at_call 15; (with_reducible refine (cTk _ _ hu4.is).mono ?_); rintro e w5 ⟨A5, c5, b5, off5, co5, Ax, cx, rfl, hu5, hb5, hc5, hB5, hbl5⟩; have hbs := hO.b0.lt; replace hO := (hO.grow hbl5).new2 25 #[.int .i64 p, .int .i64 (M : Int), .int .i64 q, .int .i64 (now + ((k : Int) + 1) * p), .slice A5 1 c5]; replace hu5 := (hu5.mono (base' := w2.heap.size + 1) hbs).alloc (.cells #[.int .i64 p, .int .i64 (M : Int), .int .i64 q, .int .i64 (now + ((k : Int) + 1) * p), .slice A5 1 c5] 25); clear cTk hu4 hbs)
            )
          have hv1 : ∀ n, (convert 33 9 (.slice Ax nb cx)).run Try.prog ((w5.alloc (.cells #[.int .i64 p, .int .i64 (M : Int), .int .i64 q, .int .i64 (now + ((k : Int) + 1) * p), .slice A5 1 c5] 25)).drewN n) = .ok (.string s1) ((w5.alloc (.cells #[.int .i64 p, .int .i64 (M : Int), .int .i64 q, .int .i64 (now + ((k : Int) + 1) * p), .slice A5 1 c5] 25)).drewN n) := fun n => by
            have := run_bytes_string ((hB5.alloc (.cells #[.int .i64 p, .int .i64 (M : Int), .int .i64 q, .int .i64 (now + ((k : Int) + 1) * p), .slice A5 1 c5] 25)).drewN n)
            rw [← HNB.out, ← hs1.out] at this
            exact this
          have hv2 : ∀ n, (convert 33 9 (.slice Ab nb cb)).run Try.prog ((w5.alloc (.cells #[.int .i64 p, .int .i64 (M : Int), .int .i64 q, .int .i64 (now + ((k : Int) + 1) * p), .slice A5 1 c5] 25)).drewN n) = .ok (.string s1) ((w5.alloc (.cells #[.int .i64 p, .int .i64 (M : Int), .int .i64 q, .int .i64 (now + ((k : Int) + 1) * p), .slice A5 1 c5] 25)).drewN n) := fun n => by
            have := run_bytes_string ((hB.below hO.below).drewN n)
            rw [← HNB.out, ← hs1.out] at this
            exact this
          have hc6 : (w5.alloc (.cells #[.int .i64 p, .int .i64 (M : Int), .int .i64 q, .int .i64 (now + ((k : Int) + 1) * p), .slice A5 1 c5] 25)).cell? ⟨b5, off5, none⟩ = some (.slice Ax nb cx) := (World.cell?_alloc_lt _ _ _ hb5).trans hc5
          go_quiet (fail)
          generalize hwq : World.drewN (w5.alloc (.cells #[.int .i64 p, .int .i64 (M : Int), .int .i64 q, .int .i64 (now + ((k : Int) + 1) * p), .slice A5 1 c5] 25)) _ = wq
          have hO2 : Own w wq [(w2.heap.size, 25, #[.int .i64 p, .int .i64 (M : Int), .int .i64 q, .int .i64 h, .slice A 1 c]), (w3.heap.size, 25, #[.int .i64 p, .int .i64 (M : Int), .int .i64 q, .int .i64 (now + ((k : Int) + 1) * p), .slice A4 1 c4]), (w5.heap.size, 25, #[.int .i64 p, .int .i64 (M : Int), .int .i64 q, .int .i64 (now + ((k : Int) + 1) * p), .slice A5 1 c5])] := by rw [← hwq]; exact hO.grow (below_drewN (Below.refl _ _) _)
          have hu6 : IsWaitsN (w2.heap.size + 1) [⟨9, tkP now p (k + 2), (k + 1 : Nat), body⟩] (.slice A5 1 c5) wq := by rw [← hwq]; exact hu5.grow (below_drewN (Below.refl _ _) _)
          clear hwq hv1 hv2 hc6 hc5 hB5 hb5 hu5 hO
          have hO := hO2
          clear hO2
          go_wp2_with (first
            | ((with_reducible refine own_loadg2 hO ?_ _ rfl rfl _ Try.underlying25 rfl (by kernel_rfl) ?_); (· first | rfl | (simp [Region.wanted, yielded]; done)))
            | ((with_reducible refine own_row0 #[.int .i64 p, .int .i64 (M : Int), .int .i64 q, .int .i64 (now + ((k : Int) + 1) * p), .slice A5 1 c5] hO rfl _ _ rfl rfl rfl (by kernel_rfl) rfl ?_ ?_); (· (simp [Value.oneCell']; done)); intro wR hOR hszR hkR; replace hu6 := hu6.farT hO.b0 (by simp [is8]) hszR hkR; replace hO := hOR; clear hOR hszR hkR)
            )
          go_roundw
          case rel => exact ⟨k + 1, (now + ((k : Int) + 1) * p), A5, c5, by omega, by simp, by omega, by show _ ≤ tkP now p (k + 1); exact Int.le_refl _, ⟨hO.below, fun x hx => hO.blk x (by simp at hx; simp [hx]), by simp⟩, hu6⟩
          case measure => simp [intOf]; omega
        · obtain rfl : k = M := by omega
          have hd5 : decide ((k : Int) + 1 ≤ (k : Int)) = false := by simp; omega
          clear cT
          go_wp2_with (first
            | ((with_reducible refine own_loadg0 hO ?_ _ rfl rfl _ Try.underlying25 rfl (by kernel_rfl) ?_); (· first | rfl | (simp [Region.wanted, yielded]; done)))
            | (go_at_call 19; (with_reducible refine (cHk _ _ hu.is).mono ?_); rintro e w3 ⟨A4, c4, rfl, hu4, hb4⟩; replace hO := hO.grow hb4; clear cHk hu)
            | ((with_reducible refine own_row0 #[.int .i64 p, .int .i64 (k : Int), .int .i64 q, .int .i64 (now + ((k : Int) + 1) * p), .slice A4 1 c4] hO rfl _ _ rfl rfl rfl (by kernel_rfl) rfl ?_ ?_); (· (simp [Value.oneCell']; done)); intro wR hOR hszR hkR; replace hu4 := hu4.farT hO.b0 (by simp [is8]) hszR hkR; replace hO := hOR; clear hOR hszR hkR)
            | (go_at_call 15; (with_reducible refine (cE _ _ hu4.is).mono ?_); rintro e w5 ⟨A5, c5, Ao5, co5, rfl, hbl5⟩; replace hO := hO.grow hbl5; clear cE hu4)
            )
          go_ret
          exact ⟨rfl, hO.below.trans (((Below.refl _ _).alloc (Nat.le_refl _) _).mono hO.below.size)⟩
    · have hcase : decide ((body.length : Int) < 1) = true ∨ (decide ((body.length : Int) < 1) = false ∧ decide ((1023 : Int) < body.length) = true) ∨ (decide ((body.length : Int) < 1) = false ∧ decide ((1023 : Int) < body.length) = false ∧ decide (2147483648 < now) = true) := by
        rw [isSized_iff] at hsz
        simp
        omega
      rcases hcase with h1 | ⟨h1, h2⟩ | ⟨h1, h2, h3⟩
      all_goals
        clear h0 hsz
        go_enter Try.func7, Try.ntmps7
        go_wp2_with (first
          | (go_at_call 8; (with_reducible refine (awake12_any _).mono ?_); rintro e w1 ⟨rfl, hb1⟩; have hO : Own w w1 [] := (Own.nil w).grow hb1)
          | (go_at_call 9; (with_reducible refine (ha' _).mono ?_); rintro e w2 ⟨A2, c2, rfl, hu2, hb2⟩; replace hO := (hO.grow hb2).new0 25 #[.int .i64 p, .int .i64 m, .int .i64 q, .int .i64 now, .slice A2 0 c2]; clear ha'))
        go_ret
        exact ⟨rfl, hO.below⟩

set_option maxRecDepth 100000 in
theorem linkLost_lifted (os : Os) (started : os.Started) (H : Type) (enc : TypeId × Value → H) :
    ReturnsInHanded {} Try.checked os 7 .any (Rows.linkLostSpec.pre6 enc Try.prog Try.f7 Rows.linkLostRow.domain false) (Rows.linkLostSpec.post enc Try.prog Try.f7 false true false false) := by
  refine returnsInHanded_of_change (C := Try.checked) own started (by kernel_rfl) Try.func7
    (ChangeSpec.witness6 (enc := enc) (C := Try.checked) false ⟨#[], #[.int .i64 0, .int .i64 0, .int .i64 0, .int .i64 0, .slice none 0 0], []⟩ 8 (by kernel_rfl) (by kernel_rfl) (by kernel_rfl) (by kernel_rfl)) ?_
  intro W base args ds gs before hval0 hW hcnd _
  have hval : ∀ (j : Nat) t v, Try.f7.params[j]? = some t → args[j]? = some v → Value.okWide Try.prog W .any base t v := hval0
  have hW' := hW
  obtain ⟨p, q, hA0, hV, rfl, hfz, hnd⟩ := hW
  have hA : DataW.TrodAll enc Try.prog W 0 (fun _ => true) true Try.f7.params.toList args.toList ds p := hA0
  rw [Try.params7] at hA hval
  obtain ⟨v0, vs0, d0, ds0, p0, q0, hargs, rfl, rfl, h0, r0⟩ := trodAll_cons hA
  obtain ⟨v1, vs1, d1, ds1, p1, q1, rfl, rfl, rfl, h1, r1⟩ := trodAll_cons r0
  obtain ⟨v2, vs2, d2, ds2, p2, q2, rfl, rfl, rfl, h2, r2⟩ := trodAll_cons r1
  obtain ⟨v3, vs3, d3, ds3, p3, q3, rfl, rfl, rfl, h3, r3⟩ := trodAll_cons r2
  obtain ⟨v4, vs4, d4, ds4, p4, q4, rfl, rfl, rfl, h4, r4⟩ := trodAll_cons r3
  obtain ⟨rfl, rfl, rfl⟩ := trodAll_nil r4
  obtain rfl : args = #[v0, v1, v2, v3, v4] := by cases args; simp_all
  obtain ⟨rfl, rfl⟩ := trodVars_none hV
  have k0 := h0
  have lt0 : ∀ x ∈ p0, x.block < W.heap.size := by obtain ⟨m, hm⟩ := k0; exact DataW.trod_lt m _ _ _ hm
  have k1 := h1
  have lt1 : ∀ x ∈ p1, x.block < W.heap.size := by obtain ⟨m, hm⟩ := k1; exact DataW.trod_lt m _ _ _ hm
  have k2 := h2
  have lt2 : ∀ x ∈ p2, x.block < W.heap.size := by obtain ⟨m, hm⟩ := k2; exact DataW.trod_lt m _ _ _ hm
  have k3 := h3
  have lt3 : ∀ x ∈ p3, x.block < W.heap.size := by obtain ⟨m, hm⟩ := k3; exact DataW.trod_lt m _ _ _ hm
  have k4 := h4
  have lt4 : ∀ x ∈ p4, x.block < W.heap.size := by obtain ⟨m, hm⟩ := k4; exact DataW.trod_lt m _ _ _ hm
  obtain ⟨a0, rfl, _, _, w0⟩ := open_int Try.underlying3 (hval 0 3 v0 rfl rfl) h0
  obtain ⟨a1, rfl, _, _, w1⟩ := open_int Try.underlying3 (hval 1 3 v1 rfl rfl) h1
  obtain ⟨a2, rfl, _, _, w2⟩ := open_int Try.underlying3 (hval 2 3 v2 rfl rfl) h2
  obtain ⟨a3, rfl, _, _, w3⟩ := open_int Try.underlying3 (hval 3 3 v3 rfl rfl) h3
  obtain ⟨s4, b4⟩ := open_bytes (hval 4 33 v4 rfl rfl) h4
  clear hA0 hval0
  refine (linkLost_walk a0 (bounds_i64 w0).1 (bounds_i64 w0).2 a1 (bounds_i64 w1).1 (bounds_i64 w1).2 a2 (bounds_i64 w2).1 (bounds_i64 w2).2 a3 (bounds_i64 w3).1 (bounds_i64 w3).2 v4 s4 W b4).mono fun e W' ⟨he, bel⟩ => ?_
  subst he
  exact ⟨_, rfl, _, _, _, [], _, [], hW', trodAll_mk1 (shut_bool Try.underlying4 _), (trodAll_cons_mk (Below.trod laidOut (by kernel_rfl) (of_decide_eq_true (by kernel_rfl)) k0 bel lt0) (trodAll_cons_mk (Below.trod laidOut (by kernel_rfl) (of_decide_eq_true (by kernel_rfl)) k1 bel lt1) (trodAll_cons_mk (Below.trod laidOut (by kernel_rfl) (of_decide_eq_true (by kernel_rfl)) k2 bel lt2) (trodAll_cons_mk (Below.trod laidOut (by kernel_rfl) (of_decide_eq_true (by kernel_rfl)) k3 bel lt3) (trodAll_cons_mk (Below.trod laidOut (by kernel_rfl) (of_decide_eq_true (by kernel_rfl)) k4 bel lt4) trodAll_mk0))))), rfl, bel.frame _, fun h => by cases h⟩

theorem linkLost_over : Rows.linkLostRow.holds Try.pinned (OpenSpec.ofChange Rows.linkLostSpec) :=
  OpenClaim.holds_of_wide 7 Try.f7 rfl rfl rfl rfl rfl rfl rfl ⟨rfl, rfl, rfl, rfl, rfl⟩ rfl rfl rfl rfl rfl (by kernel_rfl) Try.func7 (by kernel_rfl)
    (of_decide_eq_true (by kernel_rfl)) (by unfold Func.isWrapper; rw [if_neg (of_decide_eq_false (by kernel_rfl))]; exact ⟨rfl, rfl⟩)
    (fun os started H enc _ => linkLost_lifted os started H enc)

/-- THE STATEMENT. -/
theorem linkLost_holds : Rows.LinkLostSaid := linkLost_over
end Go.Proofs.Ytiloammjejggjaa
