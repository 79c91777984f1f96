/- What becomes of a link, in plain Lean; New, Acked, Heard of package link. -/
import Derived.Test.YtiloammjejggjaaLinkMay
import Derived.Test.YtiloammjejggjaaLinkFind
import Derived.Test.YtiloammjejggjaaLinkDelete
set_option linter.unusedSimpArgs false
set_option linter.unusedVariables false
namespace Go.Proofs.Ytiloammjejggjaa
open Go.RowKit

def insW (l : Lk) (t now : Int) (body : List UInt8) : List Wt := l.waits.take (findI l.waits t) ++ ⟨t, now + l.period, 0, body⟩ :: l.waits.drop (findI l.waits t)
def sentE (l : Lk) (t now : Int) (body : List UInt8) : Int := if mayL l && isTime t && isTime now && isSized body then (if findB l.waits t then 5 else if l.waits.length = 8 then 3 else 0) else 1
def sentL (l : Lk) (t now : Int) (body : List UInt8) : Lk := if sentE l t now body = 0 then ⟨l.period, l.most, l.quiet, l.heard, insW l t now body⟩ else Lk.zero
def delW (ws : List Wt) (t : Int) : List Wt := ws.take (findI ws t) ++ ws.drop (findI ws t + 1)
def ackedE (l : Lk) (t : Int) : Int := if mayL l then (if findB l.waits t then 0 else 4) else 1
def ackedL (l : Lk) (t : Int) : Lk := if ackedE l t = 0 then ⟨l.period, l.most, l.quiet, l.heard, delW l.waits t⟩ else Lk.zero
def heardE (l : Lk) (now : Int) : Int := if mayL l && isTime now then 0 else 1
def heardL (l : Lk) (now : Int) : Lk := if heardE l now = 0 then ⟨l.period, l.most, l.quiet, max l.heard now, l.waits⟩ else Lk.zero
def newE (p m q n : Int) : Int := if mayL ⟨p, m, q, n, []⟩ then 0 else 1
def newL (p m q n : Int) : Lk := if newE p m q n = 0 then ⟨p, m, q, n, []⟩ else Lk.zero
/-- A link and an error handed back. -/
def RetL (l : Lk) (er : Int) (w : World) (e : Ending) (w' : World) : Prop := ∃ v, e = .returned (.tuple #[v, .int .i64 er]) ∧ IsLinkN w.heap.size l v w' ∧ Below w.heap.size w w'
theorem link_zero {base : Nat} (w : World) : IsLinkN base Lk.zero (.agg #[.int .i64 0, .int .i64 0, .int .i64 0, .int .i64 0, .slice none 0 0]) w := ⟨_, rfl, IsWaitsN.nil w _⟩
theorem mayL_sized {l : Lk} (h : mayL l = true) : ∀ x ∈ l.waits, 1 ≤ x.body.length ∧ x.body.length ≤ 1023 := by
  have key : ∀ (ws : List Wt) (last : Int), wtsOk l.most last ws = true → ∀ x ∈ ws, isSized x.body = true := by
    intro ws
    induction ws with
    | nil => intro _ _ x hx; cases hx
    | cons y ys ih =>
      intro last h x hx
      simp only [wtsOk, Bool.and_eq_true] at h
      rcases List.mem_cons.1 hx with rfl | hx
      · exact (wtOk_iff.1 h.1).2.2.2.2.2.2
      · exact ih _ h.2 x hx
  simp only [mayL, Bool.and_eq_true] at h
  intro x hx
  exact isSized_iff.1 (key _ _ h.2 x hx)
theorem mayL_bounds {l : Lk} (h : mayL l = true) : ∀ x ∈ l.waits, 0 ≤ x.tries ∧ x.tries ≤ 20 ∧ 0 ≤ x.due ∧ x.due ≤ 8589934592 := by
  have key : ∀ (ws : List Wt) (last : Int), wtsOk l.most last ws = true → ∀ x ∈ ws, 0 ≤ x.tries ∧ x.tries ≤ l.most ∧ 0 ≤ x.due ∧ x.due ≤ 8589934592 := by
    intro ws
    induction ws with
    | nil => intro _ _ x hx; cases hx
    | cons y ys ih =>
      intro last h x hx
      simp only [wtsOk, Bool.and_eq_true] at h
      rcases List.mem_cons.1 hx with rfl | hx
      · obtain ⟨_, _, h1, h2, h3, h4, _⟩ := wtOk_iff.1 h.1
        exact ⟨h3, h4, h1, h2⟩
      · exact ih _ h.2 x hx
  simp only [mayL, Bool.and_eq_true] at h
  intro x hx
  obtain ⟨h1, h2, h3, h4⟩ := key _ _ h.2 x hx
  have := (headOk_iff.1 h.1).2.2.2.2.2.1
  exact ⟨h1, by omega, h3, h4⟩
theorem mayL_head {l : Lk} (h : mayL l = true) : 1 ≤ l.period ∧ l.period ≤ 1048576 ∧ 1 ≤ l.quiet ∧ l.quiet ≤ 1048576 ∧ 0 ≤ l.most ∧ l.most ≤ 20 ∧ (0 ≤ l.heard ∧ l.heard ≤ 4294967294) ∧ l.waits.length ≤ 8 := by
  simp only [mayL, Bool.and_eq_true] at h
  have := headOk_iff.1 h.1
  rw [isTime_iff] at this
  exact this
theorem mayL_sorted {l : Lk} (h : mayL l = true) : (∀ x ∈ l.waits, isTime x.t = true) ∧ l.waits.Pairwise fun x y => x.t < y.t := by
  simp only [mayL, Bool.and_eq_true] at h
  obtain ⟨h1, h2⟩ := wtsOk_sorted h.2
  exact ⟨fun x hx => (h1 x hx).2, h2⟩
theorem findI_lt {l : Lk} (hm : mayL l = true) {t : Int} (h : findB l.waits t = true) : isTime t = true ∧ findI l.waits t < l.waits.length := by
  obtain ⟨hT, hs⟩ := mayL_sorted hm
  unfold findB at h
  rw [List.any_eq_true] at h
  obtain ⟨x, hx, e⟩ := h
  simp at e
  subst e
  refine ⟨hT x hx, ?_⟩
  obtain ⟨k, hk⟩ := List.getElem?_of_mem hx
  have hlt := (List.getElem?_eq_some_iff.1 hk).1
  have : findI l.waits x.t = k := findI_of (by omega) (fun j y hj hy => sorted_at hs hj hy hk) (fun j y hj hy => by
    rcases Nat.eq_or_lt_of_le hj with rfl | hj
    · rw [hk] at hy; injection hy with hy; subst hy; omega
    · have := sorted_at hs hj hk hy; omega)
  omega
theorem IsBytesO.isOf {R : Option Nat} {w w' : World} (xs : List (Wt × Value)) (h : ∀ p ∈ xs, IsBytesO R p.1.body p.2 w) (hg : w.grownBy w' R) : ∀ p ∈ xs, IsBytes p.1.body p.2 w' := fun p hp => (h p hp).grown hg
theorem edit_len {ws : List Wt} (ys : List (Wt × Value)) (i n : Nat) (hy : ys.map (·.1) = ws) (hn : ws.length = n) (hi : i < n) : (ys.take i ++ ys.drop (i + 1)).length = n - 1 := by
  have : ys.length = n := by rw [← hn, ← hy, List.length_map]
  simp; omega
theorem map_edit (xs : List (Wt × Value)) (i j : Nat) : (xs.take i ++ xs.drop j).map (·.1) = (xs.map (·.1)).take i ++ (xs.map (·.1)).drop j := by simp [List.map_take, List.map_drop]

theorem lknew_k (p m q n : Int) (w : World) : Calls Try.prog 9 #[.int .i64 p, .int .i64 m, .int .i64 q, .int .i64 n] w (RetL (newL p m q n) (newE p m q n) w) := by
  have hmay := fun W => lkmay_k ⟨p, m, q, n, []⟩ none 0 0 [] W rfl rfl (WaitsAt.nil W none) (by omega)
  simp only at hmay
  have hO : Own w _ [_, _] := Own.start2 w 25 25 #[.int .i64 0, .int .i64 0, .int .i64 0, .int .i64 0, .slice none 0 0] #[.int .i64 p, .int .i64 m, .int .i64 q, .int .i64 n, .slice none 0 0]
  unfold newL newE
  generalize mayL ⟨p, m, q, n, []⟩ = ok at *
  cases ok with
  | false =>
    simp only [Bool.false_eq_true, if_false]
    go_enter Try.func9, Try.ntmps9
    go_wp2_with (first
      | ((with_reducible refine own_loadg1 hO ?_ _ rfl rfl _ Try.underlying25 rfl (by kernel_rfl) ?_); (· first | rfl | (simp [Region.wanted, yielded]; done)))
      | (go_at_call 13; (with_reducible refine (hmay _).mono ?_); rintro e w1 ⟨rfl, hb1⟩; replace hO := hO.grow hb1)
      | ((with_reducible refine own_row0 (#[.int .i64 0, .int .i64 0, .int .i64 0, .int .i64 0, .slice none 0 0]) hO rfl _ _ rfl rfl rfl (by kernel_rfl) rfl ?_ ?_); (· first | rfl | (simp [Value.oneCell']; done)); intro wR hOR hszR hkR; replace hO := hOR; clear hOR)
      )
    exact bodyPost_ret (results_ct Try.results9 _ _ _ _ _ _ rfl rfl hO.b0 Try.underlying25 rfl (by kernel_rfl)) rfl ⟨_, rfl, link_zero _, hO.below⟩
  | true =>
    simp only [if_true]
    go_enter Try.func9, Try.ntmps9
    go_wp2_with (first
      | ((with_reducible refine own_loadg1 hO ?_ _ rfl rfl _ Try.underlying25 rfl (by kernel_rfl) ?_); (· first | rfl | (simp [Region.wanted, yielded]; done)))
      | (go_at_call 13; (with_reducible refine (hmay _).mono ?_); rintro e w1 ⟨rfl, hb1⟩; replace hO := hO.grow hb1)
      | ((with_reducible refine own_row0 (#[.int .i64 p, .int .i64 m, .int .i64 q, .int .i64 n, .slice none 0 0]) hO rfl _ _ rfl rfl rfl (by kernel_rfl) rfl ?_ ?_); (· first | rfl | (simp [Value.oneCell']; done)); intro wR hOR hszR hkR; replace hO := hOR; clear hOR)
      )
    exact bodyPost_ret (results_ct Try.results9 _ _ _ _ _ _ rfl rfl hO.b0 Try.underlying25 rfl (by kernel_rfl)) rfl ⟨_, rfl, ⟨_, rfl, IsWaitsN.nil _ _⟩, hO.below⟩
set_option maxHeartbeats 4000000 in
theorem lkheard_k (l : Lk) (A : Option Addr) (n c : Nat) (xs : List (Wt × Value)) (t : Int) (w : World) (hx : xs.map (·.1) = l.waits) (hn : l.waits.length = n) (hW : WaitsAt w A xs) (hc : n ≤ 9223372036854775807) :
    Calls Try.prog 19 #[.agg #[.int .i64 l.period, .int .i64 l.most, .int .i64 l.quiet, .int .i64 l.heard, .slice A n c], .int .i64 t] w (RetL (heardL l t) (heardE l t) w) := by
  have hmay := fun W (h : WaitsAt W A xs) => lkmay_k l A n c xs W hx hn h hc
  have htm := fun W => lktime_k t W
  have hO : Own w _ [_, _] := Own.start2 w 25 25 #[.int .i64 l.period, .int .i64 l.most, .int .i64 l.quiet, .int .i64 l.heard, .slice A n c] #[.int .i64 0, .int .i64 0, .int .i64 0, .int .i64 0, .slice none 0 0]
  have hcl := hO.b0.cell
  have hcop := fun (hm : mayL l = true) W (h : WaitsAt W A xs) => lkcopied_k l A n c xs W hx hn h (by have := mayL_head hm; omega) (mayL_sized hm)
  unfold heardL heardE
  cases hm : mayL l with
  | false =>
    rw [hm] at hmay
    clear hm hx hn hcop htm
    simp only [Bool.false_and, Bool.false_eq_true, if_false]
    go_enter Try.func19, Try.ntmps19
    go_wp2_with (first
      | ((with_reducible refine own_loadg0 hO ?_ _ rfl rfl _ Try.underlying25 rfl (by kernel_rfl) ?_); (· first | rfl | (simp [Region.wanted, yielded]; done)))
      | (go_at_call 13; (with_reducible refine (hmay _ (hW.below hO.below)).mono ?_); rintro e w1 ⟨rfl, hb1⟩; replace hO := hO.grow hb1)
      | ((with_reducible refine own_row1 (#[.int .i64 0, .int .i64 0, .int .i64 0, .int .i64 0, .slice none 0 0]) hO rfl _ _ rfl rfl rfl (by kernel_rfl) rfl ?_ ?_); (· first | rfl | (simp [Value.oneCell']; done)); intro wR hOR hszR hkR; replace hO := hOR; clear hOR)
      )
    exact bodyPost_ret (results_ct Try.results19 _ _ _ _ _ _ rfl rfl hO.b1 Try.underlying25 rfl (by kernel_rfl)) rfl ⟨_, rfl, link_zero _, hO.below⟩
  | true =>
    rw [hm] at hmay
    replace hcop := hcop hm
    simp only [Bool.true_and]
    clear hm hx
    unfold Copied at hcop
    rw [hn] at hcop
    cases ht : isTime t with
    | false =>
      rw [ht] at htm
      clear ht hcop hn
      simp only [Bool.false_eq_true, if_false]
      go_enter Try.func19, Try.ntmps19
      go_wp2_with (first
        | ((with_reducible refine own_loadg0 hO ?_ _ rfl rfl _ Try.underlying25 rfl (by kernel_rfl) ?_); (· first | rfl | (simp [Region.wanted, yielded]; done)))
        | (go_at_call 13; (with_reducible refine (hmay _ (hW.below hO.below)).mono ?_); rintro e w1 ⟨rfl, hb1⟩; replace hO := hO.grow hb1)
        | (go_at_call 25; (with_reducible refine (htm _).mono ?_); rintro e w1 ⟨rfl, hb1⟩; replace hO := hO.grow hb1)
        | ((with_reducible refine own_row1 (#[.int .i64 0, .int .i64 0, .int .i64 0, .int .i64 0, .slice none 0 0]) hO rfl _ _ rfl rfl rfl (by kernel_rfl) rfl ?_ ?_); (· first | rfl | (simp [Value.oneCell']; done)); intro wR hOR hszR hkR; replace hO := hOR; clear hOR)
        )
      exact bodyPost_ret (results_ct Try.results19 _ _ _ _ _ _ rfl rfl hO.b1 Try.underlying25 rfl (by kernel_rfl)) rfl ⟨_, rfl, link_zero _, hO.below⟩
    | true =>
      rw [ht] at htm
      clear ht
      simp only [if_true]
      obtain ⟨ws, hws⟩ : ∃ ws, ws = l.waits := ⟨_, rfl⟩
      rw [← hws] at hn hcop ⊢
      clear hws
      generalize l.period = x1 at *
      generalize l.most = x2 at *
      generalize l.quiet = x3 at *
      generalize l.heard = x4 at *
      have HN := Lib.hid hn
      clear hn
      obtain ⟨mx, hmx⟩ : ∃ mx, mx = max x4 t := ⟨_, rfl⟩
      have hrm : ∀ W ty, (Builtin.max_ #[3, 3] ty #[.int .i64 x4, .int .i64 t]).run Try.prog W = .ok (.int .i64 mx) W := fun W ty => by
        rw [hmx]
        by_cases hxt : x4 ≤ t
        · simp [Builtin.max_, Builtin.max2, Int.max_def, hxt] <;> omega
        · simp [Builtin.max_, Builtin.max2, Int.max_def, hxt] <;> omega
      rw [← hmx]
      clear hmx
      go_enter Try.func19, Try.ntmps19
      go_wp2_with (first
        | ((with_reducible refine own_loadg0 hO ?_ _ rfl rfl _ Try.underlying25 rfl (by kernel_rfl) ?_); (· first | rfl | (simp [Region.wanted, yielded]; done)))
        | (go_at_call 13; (with_reducible refine (hmay _ (hW.below hO.below)).mono ?_); rintro e w1 ⟨rfl, hb1⟩; replace hO := hO.grow hb1)
        | (go_at_call 25; (with_reducible refine (htm _).mono ?_); rintro e w1 ⟨rfl, hb1⟩; replace hO := hO.grow hb1)
        | (go_at_call 28; (with_reducible refine (hcop _ (hW.below hO.below)).mono ?_); rintro e w1 ⟨A2, c2, ys, rfl, hys, hOw, hb1⟩; have hbs := hO.b1.lt; replace hO := hO.grow hb1; have hV := (hOw.mono (base' := w.heap.size + 2) hbs).v; have HY := Lib.hid hys; clear hys hOw hmay hcop hbs htm)
        | ((with_reducible refine own_row0 #[.int .i64 x1, .int .i64 x2, .int .i64 x3, .int .i64 x4, .slice A2 n c2] hO rfl _ _ rfl rfl rfl (by kernel_rfl) rfl ?_ ?_); (· (simp [Value.oneCell']; done)); intro wR hOR hszR hkR; replace hV := hV.far hO.b0 (by simp [is8]) (by omega) hszR hkR; replace hO := hOR; clear hOR hszR hkR; have hclR := hO.b0.cell)
        | ((with_reducible refine own_cell0 3 (.int .i64 mx) hO rfl 3 _ _ rfl rfl rfl (by kernel_rfl) ?_ rfl ?_); (· (simp; done)); intro wR hOR hszR hkR; replace hV := hV.far hO.b0 (by simp [is8]) (by omega) hszR hkR; replace hO := hOR; clear hOR hszR hkR hclR)
        | ((with_reducible refine own_row1 #[.int .i64 x1, .int .i64 x2, .int .i64 x3, .int .i64 mx, .slice A2 n c2] hO rfl _ _ rfl rfl rfl (by kernel_rfl) rfl ?_ ?_); (· (simp [Value.oneCell']; done)); intro wR hOR hszR hkR; replace hV := hV.far hO.b1 (by simp [is8]) (by omega) hszR hkR; replace hO := hOR; clear hOR hszR hkR)
        )
      exact bodyPost_ret (results_ct Try.results19 _ _ _ _ _ _ rfl rfl hO.b1 Try.underlying25 rfl (by kernel_rfl)) rfl ⟨_, rfl, ⟨_, rfl, hV.isN (by omega) HY.out HN.out⟩, hO.below⟩
set_option maxHeartbeats 4000000 in
theorem lkacked_k (l : Lk) (A : Option Addr) (n c : Nat) (xs : List (Wt × Value)) (t : Int) (w : World) (hx : xs.map (·.1) = l.waits) (hn : l.waits.length = n) (hW : WaitsAt w A xs) (hc : n ≤ 9223372036854775807) (hlo : -9223372036854775808 ≤ t) (hhi : t ≤ 9223372036854775807) :
    Calls Try.prog 14 #[.agg #[.int .i64 l.period, .int .i64 l.most, .int .i64 l.quiet, .int .i64 l.heard, .slice A n c], .int .i64 t] w (RetL (ackedL l t) (ackedE l t) w) := by
  have hmay := fun W (h : WaitsAt W A xs) => lkmay_k l A n c xs W hx hn h hc
  have hO : Own w _ [_, _] := Own.start2 w 25 25 #[.int .i64 l.period, .int .i64 l.most, .int .i64 l.quiet, .int .i64 l.heard, .slice A n c] #[.int .i64 0, .int .i64 0, .int .i64 0, .int .i64 0, .slice none 0 0]
  have hcl := hO.b0.cell
  unfold ackedL ackedE
  cases hm : mayL l with
  | false =>
    rw [hm] at hmay
    clear hm hx hn
    simp only [Bool.false_eq_true, if_false]
    go_enter Try.func14, Try.ntmps14
    go_wp2_with (first
      | ((with_reducible refine own_loadg0 hO ?_ _ rfl rfl _ Try.underlying25 rfl (by kernel_rfl) ?_); (· first | rfl | (simp [Region.wanted, yielded]; done)))
      | (go_at_call 13; (with_reducible refine (hmay _ (hW.below hO.below)).mono ?_); rintro e w1 ⟨rfl, hb1⟩; replace hO := hO.grow hb1)
      | ((with_reducible refine own_row1 (#[.int .i64 0, .int .i64 0, .int .i64 0, .int .i64 0, .slice none 0 0]) hO rfl _ _ rfl rfl rfl (by kernel_rfl) rfl ?_ ?_); (· first | rfl | (simp [Value.oneCell']; done)); intro wR hOR hszR hkR; replace hO := hOR; clear hOR)
      )
    exact bodyPost_ret (results_ct Try.results14 _ _ _ _ _ _ rfl rfl hO.b1 Try.underlying25 rfl (by kernel_rfl)) rfl ⟨_, rfl, link_zero _, hO.below⟩
  | true =>
    rw [hm] at hmay
    simp only [if_true]
    have hfind := fun W (h : WaitsAt W A xs) => lkfind_k l A n c xs t W hx hn h hm hlo hhi
    have hh := mayL_head hm
    have hlen : n ≤ 8 := by omega
    have hcop := fun W (h : WaitsAt W A xs) => lkcopied_k l A n c xs W hx hn h hlen (mayL_sized hm)
    have hfl := @findI_lt l hm t
    clear hm hh hx
    obtain ⟨ws, hws⟩ : ∃ ws, ws = l.waits := ⟨_, rfl⟩
    rw [← hws] at hn hfind hcop hfl ⊢
    clear hws
    cases hb : findB ws t with
    | false =>
      unfold Found at hfind
      rw [hb] at hfind
      clear hb hfl hn hcop
      simp only [Bool.false_eq_true, if_false]
      go_enter Try.func14, Try.ntmps14
      go_wp2_with (first
        | ((with_reducible refine own_loadg0 hO ?_ _ rfl rfl _ Try.underlying25 rfl (by kernel_rfl) ?_); (· first | rfl | (simp [Region.wanted, yielded]; done)))
        | (go_at_call 13; (with_reducible refine (hmay _ (hW.below hO.below)).mono ?_); rintro e w1 ⟨rfl, hb1⟩; replace hO := hO.grow hb1)
        | (go_at_call 27; (with_reducible refine (hfind _ (hW.below hO.below)).mono ?_); rintro e w1 ⟨i, rfl, hi, hb1⟩; replace hO := hO.grow hb1)
        | ((with_reducible refine own_row1 (#[.int .i64 0, .int .i64 0, .int .i64 0, .int .i64 0, .slice none 0 0]) hO rfl _ _ rfl rfl rfl (by kernel_rfl) rfl ?_ ?_); (· first | rfl | (simp [Value.oneCell']; done)); intro wR hOR hszR hkR; replace hO := hOR; clear hOR)
        )
      exact bodyPost_ret (results_ct Try.results14 _ _ _ _ _ _ rfl rfl hO.b1 Try.underlying25 rfl (by kernel_rfl)) rfl ⟨_, rfl, link_zero _, hO.below⟩
    | true =>
      obtain ⟨htm, hlt⟩ := hfl hb
      rw [hn] at hlt
      unfold Found at hfind
      rw [hb] at hfind
      rw [htm] at hfind
      clear hb hfl htm
      simp only [if_true]
      generalize l.period = x1 at *
      generalize l.most = x2 at *
      generalize l.quiet = x3 at *
      generalize l.heard = x4 at *
      unfold Copied at hcop
      rw [hn] at hcop
      generalize hfi : findI ws t = fi at *
      have HFI := Lib.hid hfi
      have HN := Lib.hid hn
      clear hfi hn
      have HLT := Lib.hid hlt
      clear hlt
      go_enter Try.func14, Try.ntmps14
      go_wp2_with (first
        | ((with_reducible refine own_loadg0 hO ?_ _ rfl rfl _ Try.underlying25 rfl (by kernel_rfl) ?_); (· first | rfl | (simp [Region.wanted, yielded]; done)))
        | (go_at_call 13; (with_reducible refine (hmay _ (hW.below hO.below)).mono ?_); rintro e w1 ⟨rfl, hb1⟩; replace hO := hO.grow hb1)
        | (go_at_call 27; (with_reducible refine (hfind _ (hW.below hO.below)).mono ?_); rintro e w1 ⟨i, rfl, hi, hb1⟩; obtain rfl := hi (by simp); clear hi; have hib : i ≤ 8 := (by have := HLT.out; omega); replace hO := hO.grow hb1)
        | (go_at_call 28; (with_reducible refine (hcop _ (hW.below hO.below)).mono ?_); rintro e w1 ⟨A2, c2, ys, rfl, hys, hOw, hb1⟩; have hbs := hO.b1.lt; replace hO := hO.grow hb1; replace hOw := hOw.mono (base' := w.heap.size + 2) hbs; have HY := Lib.hid hys; clear hys hmay hfind hcop hbs)
        | ((with_reducible refine own_row0 #[.int .i64 x1, .int .i64 x2, .int .i64 x3, .int .i64 x4, .slice A2 n c2] hO rfl _ _ rfl rfl rfl (by kernel_rfl) rfl ?_ ?_); (· (simp [Value.oneCell']; done)); intro wR hOR hszR hkR; replace hOw := hOw.far hO.b0 (by simp [is8]) (by omega) hszR hkR; replace hO := hOR; clear hOR hszR hkR; have hclR := hO.b0.cell)
        | (go_at_call 29; go_loud (with_reducible refine (wdelete_k n i c2 (w.heap.size + 2) ys _ A2 (by rw [← HN.out, ← HY.out, List.length_map]) hOw.own HLT.out hlen (fun q hq => (hOw.body q hq).is.one)).mono ?_); rintro e w1 ⟨A3, c3, he, ho3, hgr, hb1⟩; go_loud (have hV : OwnV w1 (w.heap.size + 2) A3 c3 _ := ⟨ho3, fun q hq => (hOw.body q (by rcases List.mem_append.1 hq with h | h; exact List.mem_of_mem_take h; exact List.mem_of_mem_drop h)).grown hgr⟩; rw [edit_len _ _ _ HY.out HN.out HLT.out] at he; subst he; replace hO := hO.above hb1 (by intro x hx; simp at hx; rcases hx with rfl | rfl <;> simp); clear ho3 hgr hOw hclR; have hcl3 := hO.b0.cell; have hfl3 := hO.b0.frozen))
        | ((with_reducible refine own_cell0 4 (.slice A3 (n - 1) c3) hO rfl 23 _ _ rfl rfl rfl (by kernel_rfl) ?_ rfl ?_); (· (simp; done)); intro wR hOR hszR hkR; replace hV := hV.far hO.b0 (by simp [is8]) (by omega) hszR hkR; replace hO := hOR; clear hOR hszR hkR hcl3 hfl3)
        | ((with_reducible refine own_row1 #[.int .i64 x1, .int .i64 x2, .int .i64 x3, .int .i64 x4, .slice A3 (n - 1) c3] hO rfl _ _ rfl rfl rfl (by kernel_rfl) rfl ?_ ?_); (· (simp [Value.oneCell']; done)); intro wR hOR hszR hkR; replace hV := hV.far hO.b1 (by simp [is8]) (by omega) hszR hkR; replace hO := hOR; clear hOR hszR hkR)
        )
      have hdl : delW ws t = (ys.take i ++ ys.drop (i + 1)).map (·.1) := by
        rw [map_edit, HY.out]
        unfold delW
        rw [HFI.out]
      refine bodyPost_ret (results_ct Try.results14 _ _ _ _ _ _ rfl rfl hO.b1 Try.underlying25 rfl (by kernel_rfl)) rfl ⟨_, rfl, ⟨_, rfl, hV.isN (by omega) hdl.symm ?_⟩, hO.below⟩
      show (delW ws t).length = n - 1
      rw [hdl, List.length_map]
      exact edit_len _ _ _ HY.out HN.out HLT.out
end Go.Proofs.Ytiloammjejggjaa
