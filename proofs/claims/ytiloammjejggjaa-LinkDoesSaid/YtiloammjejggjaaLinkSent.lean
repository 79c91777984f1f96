/- link.Sent. -/
import Derived.Test.YtiloammjejggjaaLinkActs
import Derived.Test.YtiloammjejggjaaRegionTL
set_option linter.unusedSimpArgs false
set_option linter.unusedVariables false
namespace Go.Proofs.Ytiloammjejggjaa
open Go.RowKit

theorem Own.grownBy {w W W' : World} {L : List Bk} {R : Option Nat} (h : Own w W L) (hk : W.grownBy W' R) (hR : ∀ g, R = some g → w.heap.size ≤ g ∧ ∀ x ∈ L, x.1 ≠ g) : Own w W' L := by
  refine ⟨h.below.trans ⟨hk.os, hk.tape, hk.output, ?_, fun k hk' => hk.block k (Nat.lt_of_lt_of_le hk' h.below.size) fun e => ?_⟩, fun x hx => ⟨(h.blk x hx).1, (h.blk x hx).2.grown hk fun e => ?_⟩, h.nodup⟩
  · exact hk.size
  · have := (hR k e.symm).1
    omega
  · exact (hR x.1 e.symm).2 x hx rfl
/-- How an operation of Sent's last region may turn the world. -/
def WaysS (R : Option Nat) (i : Nat) (w w' : World) : Prop := (i ≠ 12 → Below w.heap.size w w') ∧ w.grownBy w' R
theorem waysS_same (R : Option Nat) (i : Nat) (w : World) : WaysS R i w w := ⟨fun _ => Below.refl _ _, World.grownBy.refl w R⟩
theorem waysS_below {R : Option Nat} {i : Nat} {w w' : World} (h : Below w.heap.size w w') : WaysS R i w w' := ⟨fun _ => h, grown_of_below h R⟩
theorem grownBy_trans {a b c : World} {R : Option Nat} (h : a.grownBy b R) (k : b.grownBy c R) : a.grownBy c R :=
  ⟨k.os.trans h.os, k.tape.trans h.tape, k.output.trans h.output, Nat.le_trans h.size k.size, fun i hi hn => (k.block i (Nat.lt_of_lt_of_le hi h.size) hn).trans (h.block i hi hn)⟩
theorem IsBytesO.grownO {R : Option Nat} {bs : List UInt8} {v : Value} {w w' : World} (h : IsBytesO R bs v w) (hg : w.grownBy w' R) : IsBytesO R bs v w' := by
  obtain ⟨A, c, e, hB, hn⟩ := h
  exact ⟨A, c, e, hB.grownOff hn hg, hn⟩
def MsgV (R : Option Nat) (t due : Int) (bs : List UInt8) : Value → World → Prop := fun v w => ∃ x, v = .agg #[.int .i64 t, .int .i64 due, .int .i64 0, x] ∧ IsBytesO R bs x w
theorem MsgV.grownO {R : Option Nat} {t due : Int} {bs : List UInt8} {v : Value} {w w' : World} (h : MsgV R t due bs v w) (hg : w.grownBy w' R) : MsgV R t due bs v w' := by
  obtain ⟨x, e, hx⟩ := h
  exact ⟨x, e, hx.grownO hg⟩
def MsgS (R : Option Nat) (t due : Int) (bs : List UInt8) : Value → World → Prop := fun v w => ∃ bv x, v = .slice (some ⟨bv, 0, none⟩) 1 1 ∧ Blk w bv 35 #[.int .i64 t, .int .i64 due, .int .i64 0, x] ∧ R ≠ some bv ∧ IsBytesO R bs x w
theorem MsgS.grownO {R : Option Nat} {t due : Int} {bs : List UInt8} {v : Value} {w w' : World} (h : MsgS R t due bs v w) (hg : w.grownBy w' R) : MsgS R t due bs v w' := by
  obtain ⟨bv, x, e, hB, hn, hx⟩ := h
  exact ⟨bv, x, e, hB.grown hg (fun e => hn e.symm), hn, hx.grownO hg⟩
def RowV (base n : Nat) (ws : List Wt) : Value → World → Prop := fun v w => ∃ A c zs, v = .slice A n c ∧ zs.map (·.1) = ws ∧ OwnV w base A c zs
theorem RowV.grow {base n : Nat} {ws : List Wt} {v : Value} {w w' : World} (h : RowV base n ws v w) (hb : Below w.heap.size w w') : RowV base n ws v w' := by
  obtain ⟨A, c, zs, e, hz, hV⟩ := h
  exact ⟨A, c, zs, e, hz, hV.grow hb⟩
theorem sent_row (w : World) (base : Nat) (n i c2 : Nat) (A2 : Option Addr) (ys : List (Wt × Value)) (ws : List Wt) (t due : Int) (bs : List UInt8) (v : Value) (hys : ys.map (·.1) = ws) (hn : ws.length = n) (hlen : n < 8) (hi : i ≤ n) (hOw : OwnWs w base A2 c2 ys) (hb : base ≤ w.heap.size) (hv : MsgS (rowOf A2) t due bs v w) :
    Calls Try.prog 33 #[.slice A2 n c2, .int .i64 (i : Int), v] w fun e w' => ∃ z, e = .returned z ∧ RowV base (n + 1) (ws.take i ++ ⟨t, due, 0, bs⟩ :: ws.drop i) z w' ∧ w.grownBy w' (rowOf A2) := by
  obtain ⟨bv, x, rfl, hB, hne, hx⟩ := hv
  have hyn : ys.length = n := by rw [← hn, ← hys, List.length_map]
  refine (winsert_k n i c2 bv base ys (⟨t, due, 0, bs⟩, x) w A2 hyn hOw.own hb hi (by omega) hB hne hx.is.one (fun q hq => (hOw.body q hq).is.one)).mono ?_
  rintro e w' ⟨A3, c3, rfl, ho3, hg, hb3⟩
  have hl : (ys.take i ++ (⟨t, due, 0, bs⟩, x) :: ys.drop i).length = n + 1 := by simp; omega
  refine ⟨_, rfl, ⟨A3, c3, _, by rw [hl], ?_, ho3, ?_⟩, hg⟩
  · rw [List.map_append, List.map_cons, List.map_take, List.map_drop, hys]
  · intro q hq
    rcases List.mem_append.1 hq with h | h
    · exact (hOw.body q (List.mem_of_mem_take h)).grown hg
    · rcases List.mem_cons.1 h with rfl | h
      · exact hx.grown hg
      · exact (hOw.body q (List.mem_of_mem_drop h)).grown hg
set_option maxHeartbeats 4000000 in
theorem lksent_bad (l : Lk) (A : Option Addr) (n c : Nat) (xs : List (Wt × Value)) (t now : Int) (Ab : Option Addr) (nb cb : Nat) (body : List UInt8) (w : World) (hx : xs.map (·.1) = l.waits) (hn : l.waits.length = n) (hW : WaitsAt w A xs) (hc : n ≤ 9223372036854775807) (hlo : -9223372036854775808 ≤ t) (hhi : t ≤ 9223372036854775807) (hbn : body.length = nb) (hB : Bytes w Ab cb body) (he : sentE l t now body ≠ 0) :
    Calls Try.prog 16 #[.agg #[.int .i64 l.period, .int .i64 l.most, .int .i64 l.quiet, .int .i64 l.heard, .slice A n c], .int .i64 t, .int .i64 now, .slice Ab nb cb] w (RetL Lk.zero (sentE l t now body) w) := by
  have hmay := fun W (h : WaitsAt W A xs) => lkmay_k l A n c xs W hx hn h hc
  have htt := fun W => lktime_k t W
  have htn := fun W => lktime_k now W
  have hBl := hB.len_le
  have hsz := fun W => lksized_k Ab nb cb W (by omega)
  have hsi : (decide (1 ≤ nb) && decide (nb ≤ 1023)) = isSized body := by rw [← hbn]; rfl
  simp only [hsi] at hsz
  have hfind := fun W (h : WaitsAt W A xs) (hm : mayL l = true) => lkfind_k l A n c xs t W hx hn h hm hlo hhi
  have hO : Own w _ [_, _] := Own.start2 w 25 25 #[.int .i64 l.period, .int .i64 l.most, .int .i64 l.quiet, .int .i64 l.heard, .slice A n c] #[.int .i64 0, .int .i64 0, .int .i64 0, .int .i64 0, .slice none 0 0]
  have hH := fun hm => mayL_head (l := l) hm
  unfold sentE at he ⊢
  clear hsi hbn hB hBl hx
  generalize isSized body = b4 at *
  generalize isTime now = b3 at *
  generalize hb2 : isTime t = b2 at *
  replace hb2 := Lib.hid hb2
  generalize hb1 : mayL l = b1 at *
  replace hb1 := Lib.hid hb1
  obtain ⟨ws, hws⟩ : ∃ ws, ws = l.waits := ⟨_, rfl⟩
  rw [← hws] at hn hfind he hH ⊢
  clear hws
  generalize l.period = x1 at *
  generalize l.most = x2 at *
  generalize l.quiet = x3 at *
  generalize l.heard = x4 at *
  cases b1 with
  | false =>
    clear hfind hn he hH
    simp only [Bool.false_and, Bool.false_eq_true, if_false]
    go_enter Try.func16, Try.ntmps16
    go_wp2_with (first
      | ((with_reducible refine own_loadg0 hO ?_ _ rfl rfl _ Try.underlying25 rfl (by kernel_rfl) ?_); (· first | rfl | (simp [Region.wanted, yielded]; done)))
      | (go_at_call 13; (with_reducible refine (hmay _ (hW.below hO.below)).mono ?_); rintro e w1 ⟨rfl, hb1⟩; replace hO := hO.grow hb1)
      | (go_at_call 25; (with_reducible refine (htt _).mono ?_); rintro e w1 ⟨rfl, hb1⟩; replace hO := hO.grow hb1)
      | (go_at_call 25; (with_reducible refine (htn _).mono ?_); rintro e w1 ⟨rfl, hb1⟩; replace hO := hO.grow hb1)
      | (go_at_call 26; (with_reducible refine (hsz _).mono ?_); rintro e w1 ⟨rfl, hb1⟩; replace hO := hO.grow hb1)
      | (go_at_call 27; (with_reducible refine (hfind _ (hW.below hO.below)).mono ?_); rintro e w1 ⟨i, rfl, hi, hb1⟩; replace hO := hO.grow hb1; have hclF := hO.b0.cell)
      | ((with_reducible refine own_row1 (#[.int .i64 0, .int .i64 0, .int .i64 0, .int .i64 0, .slice none 0 0]) hO rfl _ _ rfl rfl rfl (by kernel_rfl) rfl ?_ ?_); (· first | rfl | (simp [Value.oneCell']; done)); intro wR hOR hszR hkR; replace hO := hOR; clear hOR)
      )
    exact bodyPost_ret (results_ct Try.results16 _ _ _ _ _ _ rfl rfl hO.b1 Try.underlying25 rfl (by kernel_rfl)) rfl ⟨_, rfl, link_zero _, hO.below⟩
  | true =>
  cases b2 with
  | false =>
    clear hfind hn he hH
    simp only [Bool.and_false, Bool.false_and, Bool.false_eq_true, if_false]
    go_enter Try.func16, Try.ntmps16
    go_wp2_with (first
      | ((with_reducible refine own_loadg0 hO ?_ _ rfl rfl _ Try.underlying25 rfl (by kernel_rfl) ?_); (· first | rfl | (simp [Region.wanted, yielded]; done)))
      | (go_at_call 13; (with_reducible refine (hmay _ (hW.below hO.below)).mono ?_); rintro e w1 ⟨rfl, hb1⟩; replace hO := hO.grow hb1)
      | (go_at_call 25; (with_reducible refine (htt _).mono ?_); rintro e w1 ⟨rfl, hb1⟩; replace hO := hO.grow hb1)
      | (go_at_call 25; (with_reducible refine (htn _).mono ?_); rintro e w1 ⟨rfl, hb1⟩; replace hO := hO.grow hb1)
      | (go_at_call 26; (with_reducible refine (hsz _).mono ?_); rintro e w1 ⟨rfl, hb1⟩; replace hO := hO.grow hb1)
      | (go_at_call 27; (with_reducible refine (hfind _ (hW.below hO.below)).mono ?_); rintro e w1 ⟨i, rfl, hi, hb1⟩; replace hO := hO.grow hb1; have hclF := hO.b0.cell)
      | ((with_reducible refine own_row1 (#[.int .i64 0, .int .i64 0, .int .i64 0, .int .i64 0, .slice none 0 0]) hO rfl _ _ rfl rfl rfl (by kernel_rfl) rfl ?_ ?_); (· first | rfl | (simp [Value.oneCell']; done)); intro wR hOR hszR hkR; replace hO := hOR; clear hOR)
      )
    exact bodyPost_ret (results_ct Try.results16 _ _ _ _ _ _ rfl rfl hO.b1 Try.underlying25 rfl (by kernel_rfl)) rfl ⟨_, rfl, link_zero _, hO.below⟩
  | true =>
  cases b3 with
  | false =>
    clear hfind hn he hH
    simp only [Bool.and_false, Bool.false_and, Bool.false_eq_true, if_false]
    go_enter Try.func16, Try.ntmps16
    go_wp2_with (first
      | ((with_reducible refine own_loadg0 hO ?_ _ rfl rfl _ Try.underlying25 rfl (by kernel_rfl) ?_); (· first | rfl | (simp [Region.wanted, yielded]; done)))
      | (go_at_call 13; (with_reducible refine (hmay _ (hW.below hO.below)).mono ?_); rintro e w1 ⟨rfl, hb1⟩; replace hO := hO.grow hb1)
      | (go_at_call 25; (with_reducible refine (htt _).mono ?_); rintro e w1 ⟨rfl, hb1⟩; replace hO := hO.grow hb1)
      | (go_at_call 25; (with_reducible refine (htn _).mono ?_); rintro e w1 ⟨rfl, hb1⟩; replace hO := hO.grow hb1)
      | (go_at_call 26; (with_reducible refine (hsz _).mono ?_); rintro e w1 ⟨rfl, hb1⟩; replace hO := hO.grow hb1)
      | (go_at_call 27; (with_reducible refine (hfind _ (hW.below hO.below)).mono ?_); rintro e w1 ⟨i, rfl, hi, hb1⟩; replace hO := hO.grow hb1; have hclF := hO.b0.cell)
      | ((with_reducible refine own_row1 (#[.int .i64 0, .int .i64 0, .int .i64 0, .int .i64 0, .slice none 0 0]) hO rfl _ _ rfl rfl rfl (by kernel_rfl) rfl ?_ ?_); (· first | rfl | (simp [Value.oneCell']; done)); intro wR hOR hszR hkR; replace hO := hOR; clear hOR)
      )
    exact bodyPost_ret (results_ct Try.results16 _ _ _ _ _ _ rfl rfl hO.b1 Try.underlying25 rfl (by kernel_rfl)) rfl ⟨_, rfl, link_zero _, hO.below⟩
  | true =>
  cases b4 with
  | false =>
    clear hfind hn he hH
    simp only [Bool.and_false, Bool.false_eq_true, if_false]
    go_enter Try.func16, Try.ntmps16
    go_wp2_with (first
      | ((with_reducible refine own_loadg0 hO ?_ _ rfl rfl _ Try.underlying25 rfl (by kernel_rfl) ?_); (· first | rfl | (simp [Region.wanted, yielded]; done)))
      | (go_at_call 13; (with_reducible refine (hmay _ (hW.below hO.below)).mono ?_); rintro e w1 ⟨rfl, hb1⟩; replace hO := hO.grow hb1)
      | (go_at_call 25; (with_reducible refine (htt _).mono ?_); rintro e w1 ⟨rfl, hb1⟩; replace hO := hO.grow hb1)
      | (go_at_call 25; (with_reducible refine (htn _).mono ?_); rintro e w1 ⟨rfl, hb1⟩; replace hO := hO.grow hb1)
      | (go_at_call 26; (with_reducible refine (hsz _).mono ?_); rintro e w1 ⟨rfl, hb1⟩; replace hO := hO.grow hb1)
      | (go_at_call 27; (with_reducible refine (hfind _ (hW.below hO.below)).mono ?_); rintro e w1 ⟨i, rfl, hi, hb1⟩; replace hO := hO.grow hb1; have hclF := hO.b0.cell)
      | ((with_reducible refine own_row1 (#[.int .i64 0, .int .i64 0, .int .i64 0, .int .i64 0, .slice none 0 0]) hO rfl _ _ rfl rfl rfl (by kernel_rfl) rfl ?_ ?_); (· first | rfl | (simp [Value.oneCell']; done)); intro wR hOR hszR hkR; replace hO := hOR; clear hOR)
      )
    exact bodyPost_ret (results_ct Try.results16 _ _ _ _ _ _ rfl rfl hO.b1 Try.underlying25 rfl (by kernel_rfl)) rfl ⟨_, rfl, link_zero _, hO.below⟩
  | true =>
  simp only [Bool.and_true, Bool.and_self, if_true] at he ⊢
  replace hfind := fun W h => hfind W h rfl
  have hlen := (hH rfl).2.2.2.2.2.2.2
  rw [hn] at hlen
  unfold Found at hfind
  rw [hn] at he ⊢
  clear hH
  cases hfb : findB ws t with
  | true =>
    rw [hfb] at hfind
    clear he hn hfb
    simp only [if_true]
    go_enter Try.func16, Try.ntmps16
    go_wp2_with (first
      | ((with_reducible refine own_loadg0 hO ?_ _ rfl rfl _ Try.underlying25 rfl (by kernel_rfl) ?_); (· first | rfl | (simp [Region.wanted, yielded]; done)))
      | (go_at_call 13; (with_reducible refine (hmay _ (hW.below hO.below)).mono ?_); rintro e w1 ⟨rfl, hb1⟩; replace hO := hO.grow hb1)
      | (go_at_call 25; (with_reducible refine (htt _).mono ?_); rintro e w1 ⟨rfl, hb1⟩; replace hO := hO.grow hb1)
      | (go_at_call 25; (with_reducible refine (htn _).mono ?_); rintro e w1 ⟨rfl, hb1⟩; replace hO := hO.grow hb1)
      | (go_at_call 26; (with_reducible refine (hsz _).mono ?_); rintro e w1 ⟨rfl, hb1⟩; replace hO := hO.grow hb1)
      | (go_at_call 27; (with_reducible refine (hfind _ (hW.below hO.below)).mono ?_); rintro e w1 ⟨i, rfl, hi, hb1⟩; replace hO := hO.grow hb1; have hclF := hO.b0.cell)
      | ((with_reducible refine own_row1 (#[.int .i64 0, .int .i64 0, .int .i64 0, .int .i64 0, .slice none 0 0]) hO rfl _ _ rfl rfl rfl (by kernel_rfl) rfl ?_ ?_); (· first | rfl | (simp [Value.oneCell']; done)); intro wR hOR hszR hkR; replace hO := hOR; clear hOR)
      )
    exact bodyPost_ret (results_ct Try.results16 _ _ _ _ _ _ rfl rfl hO.b1 Try.underlying25 rfl (by kernel_rfl)) rfl ⟨_, rfl, link_zero _, hO.below⟩
  | false =>
    rw [hfb] at hfind he
    clear hn hfb
    simp only [Bool.false_eq_true, if_false] at he ⊢
    obtain rfl : n = 8 := by
      rcases Nat.eq_or_lt_of_le hlen with h | h
      · exact h
      · rw [if_neg (by omega)] at he; exact absurd rfl he
    clear he
    simp only [if_true]
    go_enter Try.func16, Try.ntmps16
    go_wp2_with (first
      | ((with_reducible refine own_loadg0 hO ?_ _ rfl rfl _ Try.underlying25 rfl (by kernel_rfl) ?_); (· first | rfl | (simp [Region.wanted, yielded]; done)))
      | (go_at_call 13; (with_reducible refine (hmay _ (hW.below hO.below)).mono ?_); rintro e w1 ⟨rfl, hb1⟩; replace hO := hO.grow hb1)
      | (go_at_call 25; (with_reducible refine (htt _).mono ?_); rintro e w1 ⟨rfl, hb1⟩; replace hO := hO.grow hb1)
      | (go_at_call 25; (with_reducible refine (htn _).mono ?_); rintro e w1 ⟨rfl, hb1⟩; replace hO := hO.grow hb1)
      | (go_at_call 26; (with_reducible refine (hsz _).mono ?_); rintro e w1 ⟨rfl, hb1⟩; replace hO := hO.grow hb1)
      | (go_at_call 27; (with_reducible refine (hfind _ (hW.below hO.below)).mono ?_); rintro e w1 ⟨i, rfl, hi, hb1⟩; replace hO := hO.grow hb1; have hclF := hO.b0.cell)
      | ((with_reducible refine own_row1 (#[.int .i64 0, .int .i64 0, .int .i64 0, .int .i64 0, .slice none 0 0]) hO rfl _ _ rfl rfl rfl (by kernel_rfl) rfl ?_ ?_); (· first | rfl | (simp [Value.oneCell']; done)); intro wR hOR hszR hkR; replace hO := hOR; clear hOR)
      )
    exact bodyPost_ret (results_ct Try.results16 _ _ _ _ _ _ rfl rfl hO.b1 Try.underlying25 rfl (by kernel_rfl)) rfl ⟨_, rfl, link_zero _, hO.below⟩
theorem sentE_zero {l : Lk} {t now : Int} {body : List UInt8} (h : sentE l t now body = 0) : mayL l = true ∧ isTime t = true ∧ isTime now = true ∧ isSized body = true ∧ findB l.waits t = false ∧ l.waits.length ≠ 8 := by
  unfold sentE at h
  cases h1 : mayL l <;> cases h2 : isTime t <;> cases h3 : isTime now <;> cases h4 : isSized body <;> cases h5 : findB l.waits t <;> simp [h1, h2, h3, h4, h5] at h ⊢
  exact h
set_option maxHeartbeats 8000000 in
theorem lksent_ok (l : Lk) (A : Option Addr) (n c : Nat) (xs : List (Wt × Value)) (t now : Int) (Ab : Option Addr) (nb cb : Nat) (body : List UInt8) (w : World) (hx : xs.map (·.1) = l.waits) (hn : l.waits.length = n) (hW : WaitsAt w A xs) (hc : n ≤ 9223372036854775807) (hlo : -9223372036854775808 ≤ t) (hhi : t ≤ 9223372036854775807) (hbn : body.length = nb) (hB : Bytes w Ab cb body) (he : sentE l t now body = 0) :
    Calls Try.prog 16 #[.agg #[.int .i64 l.period, .int .i64 l.most, .int .i64 l.quiet, .int .i64 l.heard, .slice A n c], .int .i64 t, .int .i64 now, .slice Ab nb cb] w (RetL ⟨l.period, l.most, l.quiet, l.heard, insW l t now body⟩ 0 w) := by
  obtain ⟨hm, ht, hnw, hsb, hfb, hne8⟩ := sentE_zero he
  have hmay := fun W (h : WaitsAt W A xs) => lkmay_k l A n c xs W hx hn h hc
  have htt := fun W => lktime_k t W
  have htn := fun W => lktime_k now W
  have hBl := hB.len_le
  have hsz := fun W => lksized_k Ab nb cb W (by omega)
  have hsi : (decide (1 ≤ nb) && decide (nb ≤ 1023)) = isSized body := by rw [← hbn]; rfl
  simp only [hsi] at hsz
  have hfind := fun W (h : WaitsAt W A xs) => lkfind_k l A n c xs t W hx hn h hm hlo hhi
  have hO : Own w _ [_, _] := Own.start2 w 25 25 #[.int .i64 l.period, .int .i64 l.most, .int .i64 l.quiet, .int .i64 l.heard, .slice A n c] #[.int .i64 0, .int .i64 0, .int .i64 0, .int .i64 0, .slice none 0 0]
  have hH := mayL_head hm
  have hcop := fun W (h : WaitsAt W A xs) => lkcopied_k l A n c xs W hx hn h (by omega) (mayL_sized hm)
  have hlen : n < 8 := by omega
  have hb1023 := isSized_iff.1 hsb
  have hn1 := isTime_iff.1 hnw
  have hper : 1 ≤ l.period ∧ l.period ≤ 1048576 := ⟨hH.1, hH.2.1⟩
  rw [hm] at hmay
  rw [ht] at htt
  rw [hnw] at htn
  rw [hsb] at hsz
  unfold Found at hfind
  rw [hfb, ht] at hfind
  unfold Copied at hcop
  rw [hn] at hcop
  have hfle : findI l.waits t ≤ n := by rw [← hn]; exact List.IsPrefix.length_le (List.takeWhile_prefix _)
  clear hm ht hnw hsb hfb hne8 hsi he hH hx
  unfold insW
  obtain ⟨ws, hws⟩ : ∃ ws, ws = l.waits := ⟨_, rfl⟩
  rw [← hws] at hn hfind hcop hfle ⊢
  clear hws
  generalize l.period = x1 at *
  generalize l.most = x2 at *
  generalize l.quiet = x3 at *
  generalize l.heard = x4 at *
  generalize hfi : findI ws t = fi at *
  obtain ⟨h11, h12⟩ := hper
  obtain ⟨hn11, hn12⟩ := hn1
  have HN := Lib.hid hn
  have HBN := Lib.hid hbn
  have HFI := Lib.hid hfle
  have HS := Lib.hid hb1023
  clear hn hfi hbn hfle hb1023 hBl
  have hne8 : ((n : Int) == 8) = false := by simp; omega
  go_enter Try.func16, Try.ntmps16
  go_wp2_with (first
    | ((with_reducible refine own_loadg0 hO ?_ _ rfl rfl _ Try.underlying25 rfl (by kernel_rfl) ?_); (· first | rfl | (simp [Region.wanted, yielded]; done)))
    | (go_at_call 13; (with_reducible refine (hmay _ (hW.below hO.below)).mono ?_); rintro e w1 ⟨rfl, hb1⟩; replace hO := hO.grow hb1)
    | (go_at_call 25; (with_reducible refine (htt _).mono ?_); rintro e w1 ⟨rfl, hb1⟩; replace hO := hO.grow hb1)
    | (go_at_call 25; (with_reducible refine (htn _).mono ?_); rintro e w1 ⟨rfl, hb1⟩; replace hO := hO.grow hb1)
    | (go_at_call 26; (with_reducible refine (hsz _).mono ?_); rintro e w1 ⟨rfl, hb1⟩; replace hO := hO.grow hb1)
    | (go_at_call 27; (with_reducible refine (hfind _ (hW.below hO.below)).mono ?_); rintro e w1 ⟨i, rfl, hi, hb1⟩; obtain rfl := hi (by simp); clear hi; replace hO := hO.grow hb1; have hclF := hO.b0.cell)
    | (go_at_call 28; (with_reducible refine (hcop _ (hW.below hO.below)).mono ?_); rintro e w1 ⟨A2, c2, ys, rfl, hys, hOw, hb1⟩; have hbs := hO.b1.lt; replace hO := hO.grow hb1; replace hOw := hOw.mono (base' := w.heap.size + 2) hbs; have HY := Lib.hid hys; clear hys hmay hfind hcop hbs htt htn hsz hclF)
    | ((with_reducible refine own_row0 #[.int .i64 x1, .int .i64 x2, .int .i64 x3, .int .i64 x4, .slice A2 n c2] hO rfl _ _ rfl rfl rfl (by kernel_rfl) rfl ?_ ?_); (· (simp [Value.oneCell']; done)); intro wR hOR hszR hkR; replace hOw := hOw.far hO.b0 (by simp [is8]) (by omega) hszR hkR; replace hO := hOR; clear hOR hszR hkR)
    )
  have hbx := hO.b0
  have hbsz := hO.b1.lt
  have hrow := fun g (h : rowOf A2 = some g) => hOw.own.row_ge g h
  have hRx : some w.heap.size ≠ rowOf A2 := fun h => by have := (hrow _ h.symm).1; omega
  have hB0 : Bytes wR Ab cb body := hB.below hO.below
  have hBO : IsBytesO (rowOf A2) body (.slice Ab nb cb) wR := by
    have := IsBytes.away' (R := rowOf A2) ⟨Ab, cb, rfl, hB⟩ HS.out.1 hO.below (fun g hg => by have := (hrow g hg).1; omega)
    rwa [HBN.out] at this
  apply wp_region_lextl (fun w w' => w.grownBy w' (rowOf A2)) (fun w => grown_of_below (below_drewN (Below.refl _ _) 1) _) (fun _ _ _ => grownBy_trans) (WaysS (rowOf A2)) (fun _ _ _ h => h.2) (fun i W => i = 12 → OwnWs W (w.heap.size + 2) A2 c2 ys) (fun _ _ => hOw.grow (below_drewN (Below.refl _ _) 1)) (fun i j W W' hij hp ht hi => (hp hi).grow (ht.1 (fun h => hij (hi.trans h.symm))))
  case hFl =>
    intro u
    simp only [List.map, fill, Act.put, List.setIfInBounds_toArray, List.set_cons_zero, List.set_cons_succ, Nat.reduceAdd, Nat.zero_add]
    rfl
  case hm => kernel_rfl
  case hB => kernel_rfl
  case hA => kernel_rfl
  case hap => kernel_rfl
  iterate 9 (
    apply LexTL.is
    · (intro u w' hk hpre hd
       simp [Waited, Region.binds, Is] at hd
       refine lookedT_want (by first | rfl | simp [Region.wanted, yielded, hd]) ?_
       intro K hK
       have hcl := (hbx.grown hk hRx).cell
       go_wp2_with fail
       try simp only [hd] at hK
       refine hK _ _ ?_ rfl
       exact waysS_same _ _ _)
    )
  refine LexTL.word (IsBytesO (rowOf A2) body) ?_ ?_
  · (intro u w' hk hpre hd
     simp [Waited, Region.binds, Is] at hd
     refine lookedT_want (by first | rfl | simp [Region.wanted, yielded, hd]) ?_
     intro K hK
     obtain ⟨Ac, cc, he, hBc, hnc⟩ := hBO.grownO hk
     simp only [Value.slice.injEq] at he
     obtain ⟨rfl, hnl, rfl⟩ := he
     have HNL := Lib.hid hnl
     clear hnl hnc
     go_wp2_with (go_at_call 32; (with_reducible refine (bclone_k Ab nb cb body _ HBN.out hBc (by have := HS.out; omega)).mono ?_); rintro e w3 ⟨v3, rfl, hv3, hb3⟩)
     try simp only [hd] at hK
     exact hK _ _ (waysS_below hb3) (hv3.away HS.out.1 (fun g hg => Nat.lt_of_lt_of_le (hrow g hg).2 hk.size)))
  refine LexTL.word (MsgV (rowOf A2) t (now + x1) body) ?_ ?_
  · (intro u w' hk hpre hd
     simp [Waited, Region.binds, Is] at hd
     obtain ⟨q1, q2, hx9⟩ := hd
     obtain ⟨Ac, cc, h9, hBc, hnc⟩ := id hx9
     refine lookedT_want (by first | rfl | simp [Region.wanted, yielded]) ?_
     intro K hK
     go_wp2_with fail
     try simp only [q1, q2, h9] at hK
     refine hK _ _ (waysS_same _ _ _) ⟨_, rfl, ?_⟩
     rw [← h9]
     exact hx9)
  refine LexTL.word (MsgS (rowOf A2) t (now + x1) body) ?_ ?_
  · (intro u w' hk hpre hd
     simp [Waited, Region.binds, Is] at hd
     obtain ⟨x, h10, hx⟩ := hd
     refine lookedT_want (by first | rfl | simp [Region.wanted, yielded]) ?_
     intro K hK
     go_wp2_with fail
     try simp only [h10] at hK
     exact hK _ _ (waysS_below ((Below.refl _ _).alloc (Nat.le_refl _) _)) ⟨w'.heap.size, x, rfl, Blk.new _ _ _, fun e => by have := (hrow _ e).2; have := hk.size; omega, hx.grow ((Below.refl _ _).alloc (Nat.le_refl _) _)⟩)
  refine LexTL.word (RowV (w.heap.size + 2) (n + 1) (ws.take i ++ ⟨t, now + x1, 0, body⟩ :: ws.drop i)) ?_ ?_
  · (intro u w' hk hpre hd
     simp [Waited, Region.binds, Is] at hd
     obtain ⟨q1, q2, hx, _⟩ := hd
     have hsr := sent_row w' (w.heap.size + 2) n i c2 A2 ys ws t (now + x1) body (u 11) HY.out HN.out hlen HFI.out (hpre rfl) (Nat.le_trans hbsz hk.size) hx
     refine lookedT_want (by first | rfl | simp [Region.wanted, yielded]) ?_
     intro K hK
     go_wp2_with (go_at_call 33; (with_reducible refine (hsr).mono ?_); rintro e w3 ⟨z, rfl, hz3, hg3⟩)
     try simp only [q1, q2] at hK
     exact hK _ _ ⟨fun h => absurd rfl h, hg3⟩ hz3)
  apply LexTL.is
  · (intro u w' hk hpre hd
     simp [Waited, Region.binds, Is] at hd
     refine lookedT_want (by first | rfl | simp [Region.wanted, yielded, hd]) ?_
     intro K hK
     have hcl := (hbx.grown hk hRx).cell
     go_wp2_with fail
     try simp only [hd] at hK
     refine hK _ _ ?_ rfl
     exact waysS_same _ _ _)
  refine LexTL.last ?_ ?_
  · intro i' j Φ hij _ hj v W W' hΦ ht
    rcases j with _ | _ | _ | _ | _ | _ | _ | _ | _ | _ | _ | _ | _ | _ | j
    all_goals simp only [List.nil_append, List.cons_append, List.getElem?_cons_zero, List.getElem?_cons_succ, List.getElem?_nil, Option.some.injEq, reduceCtorEq] at hj
    all_goals subst hj
    · exact hΦ
    · exact hΦ
    · exact hΦ
    · exact hΦ
    · exact hΦ
    · exact hΦ
    · exact hΦ
    · exact hΦ
    · exact hΦ
    · exact IsBytesO.grownO hΦ ht.2
    · exact MsgV.grownO hΦ ht.2
    · exact MsgS.grownO hΦ ht.2
    · exact RowV.grow hΦ (ht.1 hij)
    · exact hΦ
  · intro u w2 hk _ hd
    simp only [List.nil_append, List.cons_append] at hd
    have hu13 := hd 13 _ rfl
    obtain ⟨A3, c3, zs, hu12, hzs, hV⟩ := hd 12 _ rfl
    simp only [Is] at hu13
    clear hd
    refine ⟨rfl, ?_⟩
    intro K hK
    have hO2 := hO.grownBy hk (fun g hg => ⟨by have := (hrow g hg).1; omega, fun x hx => by have := (hrow g hg).1; simp at hx; rcases hx with rfl | rfl <;> simp <;> omega⟩)
    refine wp_store_cell1 23 (.tmp 61) (.tmp 60) rfl w.heap.size 4 (by rw [← hu13]; rfl) (.slice A3 (n + 1) c3) (by rw [← hu12]; rfl) 25 _ hO2.b0 (by simp) (by kernel_rfl) rfl (hK _ _ ?_)
    replace hV := hV.far hO2.b0 (by simp [is8]) (by omega) (by simp [World.setCell]) (fun k hk => Below.heap_setCell w2 ⟨w.heap.size, 4, none⟩ (.slice A3 (n + 1) c3) k hk)
    replace hO := Own.cell0 hO2 4 (.slice A3 (n + 1) c3)
    have HZ := Lib.hid hzs
    clear hzs hO2 hu12 hu13 hK hk hB0 hBO hbx hOw
    generalize w2.setCell ⟨w.heap.size, 4, none⟩ (.slice A3 (n + 1) c3) = w4 at *
    go_wp2_with (first
      | ((with_reducible refine own_loadg0 hO ?_ _ rfl rfl _ Try.underlying25 rfl (by kernel_rfl) ?_); (· first | rfl | (simp [Region.wanted, yielded]; done)))
      | ((with_reducible refine own_row1 #[.int .i64 x1, .int .i64 x2, .int .i64 x3, .int .i64 x4, .slice A3 (n + 1) c3] hO rfl _ _ rfl rfl rfl (by kernel_rfl) rfl ?_ ?_); (· (simp [Value.oneCell']; done)); intro wR hOR hszR hkR; replace hV := hV.far hO.b1 (by simp [is8]) (by omega) hszR hkR; replace hO := hOR; clear hOR hszR hkR)
      )
    exact bodyPost_ret (results_ct Try.results16 _ _ _ _ _ _ rfl rfl hO.b1 Try.underlying25 rfl (by kernel_rfl)) rfl ⟨_, rfl, ⟨_, rfl, hV.isN (by omega) HZ.out (by have := HN.out; have := HFI.out; simp; omega)⟩, hO.below⟩
theorem lksent_k (l : Lk) (A : Option Addr) (n c : Nat) (xs : List (Wt × Value)) (t now : Int) (Ab : Option Addr) (nb cb : Nat) (body : List UInt8) (w : World) (hx : xs.map (·.1) = l.waits) (hn : l.waits.length = n) (hW : WaitsAt w A xs) (hc : n ≤ 9223372036854775807) (hlo : -9223372036854775808 ≤ t) (hhi : t ≤ 9223372036854775807) (hbn : body.length = nb) (hB : Bytes w Ab cb body) :
    Calls Try.prog 16 #[.agg #[.int .i64 l.period, .int .i64 l.most, .int .i64 l.quiet, .int .i64 l.heard, .slice A n c], .int .i64 t, .int .i64 now, .slice Ab nb cb] w (RetL (sentL l t now body) (sentE l t now body) w) := by
  unfold sentL
  by_cases he : sentE l t now body = 0
  · rw [if_pos he, he]
    exact lksent_ok l A n c xs t now Ab nb cb body w hx hn hW hc hlo hhi hbn hB he
  · rw [if_neg he]
    exact lksent_bad l A n c xs t now Ab nb cb body w hx hn hW hc hlo hhi hbn hB he
end Go.Proofs.Ytiloammjejggjaa
