/- A link that came in, opened to the walk's own words; is it light? -/
import Derived.Test.YtiloammjejggjaaBytesIn
import Derived.Test.YtiloammjejggjaaLinkMay
set_option linter.unusedSimpArgs false
set_option linter.unusedVariables false
namespace Go.Proofs.Ytiloammjejggjaa
open Go.ChangeShapes Go.WideShapes Go.ChangeAt Go.RowKit Go.Deep

/-- One for each number below n, as a list. -/
theorem list_of {α : Type} {P : Nat → α → Prop} : ∀ n : Nat, (∀ i, i < n → ∃ p, P i p) → ∃ xs : List α, xs.length = n ∧ ∀ i p, xs[i]? = some p → P i p
  | 0, _ => ⟨[], rfl, fun i p h => by simp at h⟩
  | n + 1, h => by
    obtain ⟨xs, hl, hx⟩ := list_of n (fun i hi => h i (by omega))
    obtain ⟨p, hp⟩ := h n (by omega)
    refine ⟨xs ++ [p], by simp [hl], fun i q hq => ?_⟩
    rw [List.getElem?_append] at hq
    split at hq
    · exact hx i q hq
    · have hi : i - xs.length = 0 := by
        rcases Nat.eq_zero_or_pos (i - xs.length) with h | h
        · exact h
        · rw [List.getElem?_eq_none (by simp; omega)] at hq; cases hq
      rw [hi] at hq
      simp at hq
      subst hq
      have : i = n := by omega
      subst this
      exact hp
section
variable {H : Type} {enc : TypeId × Value → H} {w : World} {base : Nat} {spare : Nat → Bool}
theorem wait_of_trod {held : Bool} {fuel : Nat} {cs : List Value} {x : DataW H × List MemPlace} (hf : DataW.trod enc Try.prog w base (fun _ => true) held fuel 35 cs = some x) : ∃ p : Wt × Value, cs = wcell p ∧ IsBytes p.1.body p.2 w := by
  have hc4 : Try.prog.cellsOf 35 = 4 := by kernel_rfl
  have c3 : Try.prog.cellsOf 3 = 1 := by kernel_rfl
  have c23 : Try.prog.cellsOf 33 = 1 := by kernel_rfl
  obtain ⟨xs, n, _, _, hl, hlen, hg⟩ := DataW.trod_struct Try.underlying35 hf
  rw [hc4] at hl
  match cs, hl, xs, hlen with
  | [y0, y1, y2, y3], _, [x0, x1, x2, x3], _ =>
    obtain ⟨a, rfl⟩ := int_of_trod (v := y0) (x := x0) (by simpa [c3] using hg 0 _ rfl)
    obtain ⟨b, rfl⟩ := int_of_trod (v := y1) (x := x1) (by simpa [c3] using hg 1 _ rfl)
    obtain ⟨c, rfl⟩ := int_of_trod (v := y2) (x := x2) (by simpa [c3] using hg 2 _ rfl)
    obtain ⟨bs, hB⟩ := bytes_of_trod (v := y3) (x := x3) (by simpa [c23] using hg 3 _ rfl)
    exact ⟨(⟨a, b, c, bs⟩, y3), rfl, hB⟩
theorem waits_of_trod {held : Bool} {fuel : Nat} {v : Value} {x : DataW H × List MemPlace} (hf : DataW.trod enc Try.prog w base (fun _ => true) held fuel 23 [v] = some x) : ∃ ws, IsWaits ws v w := by
  have hc4 : Try.prog.cellsOf 35 = 4 := by kernel_rfl
  rcases open_slice Try.underlying23 hf with ⟨h0, _⟩ | ⟨a, len, cap, m, n, D, Pl, hcs, _, hl, hm, hmm, _, hi⟩
  · simp only [List.cons.injEq, and_true] at h0
    subst h0
    exact ⟨[], IsWaits.nil w⟩
  · simp only [List.cons.injEq, and_true] at hcs
    subst hcs
    simp only [if_true] at hmm
    subst hmm
    rw [hc4] at hi
    obtain ⟨xs, hxl, hx⟩ := list_of (P := fun i (p : Wt × Value) => IsBytes p.1.body p.2 w ∧ ∀ j u, (wcell p)[j]? = some u → w.cell? (a.add (i * 4 + j)) = some u) len (fun i hlt => by
      obtain ⟨cs', hc, ht⟩ := hi i (by omega)
      obtain ⟨p, rfl, hB⟩ := wait_of_trod ht
      obtain ⟨_, hcl, hat⟩ := World.cells?_some hc
      refine ⟨p, hB, fun j u hu => ?_⟩
      have hj : j < 4 := by
        rcases Nat.lt_or_ge j 4 with h | h
        · exact h
        · rw [List.getElem?_eq_none (by simpa [wcell] using h)] at hu; cases hu
      rw [← Go.Deep.add_add, hat j hj, hu])
    refine ⟨xs.map (·.1), some a, _, xs, by rw [List.length_map, hxl], rfl, ⟨?_, fun p hp => ?_⟩, by rw [List.length_map, hxl]; exact hl, hm⟩
    · intro h0
      rw [flat_length, hxl] at h0
      have hcell : ∀ j u, (flat xs)[j]? = some u → w.cell? (a.add j) = some u := by
        intro j u hu
        have hjl : j < xs.length * 4 := by
          rw [← flat_length]
          rcases Nat.lt_or_ge j (flat xs).length with h | h
          · exact h
          · rw [List.getElem?_eq_none h] at hu; cases hu
        have hxi : xs[j / 4]? = some (xs[j / 4]'(by omega)) := List.getElem?_eq_getElem (by omega)
        have e := flat_at hxi (j % 4) (by omega)
        rw [show j / 4 * 4 + j % 4 = j by omega, hu] at e
        have := (hx _ _ hxi).2 (j % 4) u e.symm
        rwa [show j / 4 * 4 + j % 4 = j by omega] at this
      obtain ⟨ab, ao, spot⟩ := a
      have h00 : (flat xs)[0]? = some ((flat xs)[0]'(by rw [flat_length]; omega)) := List.getElem?_eq_getElem _
      have hspot : spot = none := by simpa [Addr.add] using World.cell?_spot (hcell 0 _ h00)
      subst hspot
      exact ⟨ab, ao, rfl, by simpa [Addr.add] using cell_lt (hcell 0 _ h00), fun j u hu => by have := hcell j u hu; rwa [Addr.add_lit] at this⟩
    · obtain ⟨i, hi'⟩ := List.getElem?_of_mem hp
      exact (hx i p hi').1
theorem array5 {α : Type} {cs : Array α} (h : cs.size = 5) : ∃ c0 c1 c2 c3 c4, cs = #[c0, c1, c2, c3, c4] := by
  obtain ⟨l⟩ := cs
  match l, h with
  | [c0, c1, c2, c3, c4], _ => exact ⟨c0, c1, c2, c3, c4, rfl⟩
theorem open_link {r : Reach} {b0 : Nat} {v : Value} {d : DataW H} {p : List MemPlace} {held : Bool} (hv : Value.okWide Try.prog w r b0 25 v) (h : DataW.Trod enc Try.prog w base (fun _ => true) held 25 v d p) :
    ∃ l : Lk, IsLink l v w := by
  obtain ⟨cs, rfl, hsz⟩ := okWide_struct Try.underlying25 hv
  have hc5 : Try.prog.cellsOf 25 = 5 := by kernel_rfl
  have c3 : Try.prog.cellsOf 3 = 1 := by kernel_rfl
  have c23 : Try.prog.cellsOf 23 = 1 := by kernel_rfl
  obtain ⟨y0, y1, y2, y3, y4, rfl⟩ := array5 (hsz.trans hc5)
  obtain ⟨fuel, hf⟩ := h
  obtain ⟨xs, n, _, _, _, hlen, hg⟩ := DataW.trod_struct Try.underlying25 hf
  match xs, hlen with
  | [x0, x1, x2, x3, x4], _ =>
    obtain ⟨a, rfl⟩ := int_of_trod (v := y0) (x := x0) (by simpa [Value.cells, c3] using hg 0 _ rfl)
    obtain ⟨b, rfl⟩ := int_of_trod (v := y1) (x := x1) (by simpa [Value.cells, c3] using hg 1 _ rfl)
    obtain ⟨c, rfl⟩ := int_of_trod (v := y2) (x := x2) (by simpa [Value.cells, c3] using hg 2 _ rfl)
    obtain ⟨e, rfl⟩ := int_of_trod (v := y3) (x := x3) (by simpa [Value.cells, c3] using hg 3 _ rfl)
    obtain ⟨ws, hW⟩ := waits_of_trod (v := y4) (x := x4) (by simpa [Value.cells, c23] using hg 4 _ rfl)
    exact ⟨⟨a, b, c, e, ws⟩, y4, rfl, hW⟩
end
/-- At most 50 messages of at most 2000 bytes. -/
def lightW (ws : List Wt) : Bool := ws.all fun x => decide (x.body.length ≤ 2000)
def lightL (l : Lk) : Bool := decide (l.waits.length ≤ 50) && lightW l.waits
theorem lightW_drop {ws : List Wt} {k : Nat} {x : Wt} (h : ws[k]? = some x) : lightW (ws.drop k) = (decide (x.body.length ≤ 2000) && lightW (ws.drop (k + 1))) := by
  obtain ⟨hk, rfl⟩ := List.getElem?_eq_some_iff.1 h
  rw [List.drop_eq_getElem_cons hk]
  rfl
set_option maxHeartbeats 4000000 in
theorem rllight_k (l : Lk) (A : Option Addr) (n c : Nat) (xs : List (Wt × Value)) (w : World) (hx : xs.map (·.1) = l.waits) (hn : l.waits.length = n) (hW : WaitsAt w A xs) (hc : n ≤ 9223372036854775807) :
    Calls Try.prog 12 #[.agg #[.int .i64 l.period, .int .i64 l.most, .int .i64 l.quiet, .int .i64 l.heard, .slice A n c]] w fun e w' => e = .returned (.bool (lightL l)) ∧ Below w.heap.size w w' := by
  have hO : Own w _ [_] := (Own.nil w).new0 25 #[.int .i64 l.period, .int .i64 l.most, .int .i64 l.quiet, .int .i64 l.heard, .slice A n c]
  have hcl := hO.b0.cell
  unfold lightL
  rw [hn]
  obtain ⟨ws, hws⟩ : ∃ ws, ws = l.waits := ⟨_, rfl⟩
  rw [← hws] at hx hn ⊢
  clear hws
  generalize l.period = x1 at *
  generalize l.most = x2 at *
  generalize l.quiet = x3 at *
  generalize l.heard = x4 at *
  have HN := Lib.hid hn
  have HX := Lib.hid hx
  clear hn hx
  by_cases h50 : n ≤ 50
  · rw [decide_eq_true h50, Bool.true_and]
    have hd : decide ((50 : Int) < n) = false := by simp; omega
    go_enter Try.func12, Try.ntmps12
    go_wp2_with fail
    replace hW := hW.below hO.below
    clear hcl
    go_loopw [3] (fun i wr => ∃ k : Nat, k ≤ n ∧ i = .int .i64 k ∧ lightW ws = lightW (ws.drop k) ∧ Own w wr [(w.heap.size, 25, #[.int .i64 x1, .int .i64 x2, .int .i64 x3, .int .i64 x4, .slice A n c])] ∧ WaitsAt wr A xs) (fun i _ => n - (intOf i).toNat)
    case atStart => exact ⟨0, Nat.zero_le _, rfl, rfl, hO, hW⟩
    case round =>
      clear hO hW
      obtain ⟨k, hk, rfl, hl, hO, hW⟩ := hrel
      have hcl := hO.b0.cell
      have HL := Lib.hid hl
      clear hl
      by_cases hlt : k < n
      · obtain ⟨x, Ab, cb, b, off, hwk, hxk, rfl, hbl, hc0, hc1, hc2, hc3, hB⟩ := hW.get (k := k) HX.out (by have h1 := HN.out; omega)
        have HD := Lib.hid (lightW_drop hwk)
        have hBl := hB.len_le
        clear hwk hxk
        by_cases hb : x.body.length ≤ 2000
        · have hd2 : decide ((2000 : Int) < x.body.length) = false := by simp; omega
          go_wp2_with fail
          go_roundw
          case rel => exact ⟨k + 1, by omega, by go_num, by rw [HL.out, HD.out, decide_eq_true hb, Bool.true_and], hO, hW⟩
          case measure => simp [intOf]; omega
        · have hd2 : decide ((2000 : Int) < x.body.length) = true := by simp; omega
          go_wp2_with fail
          go_ret
          exact ⟨ret_bool (by rw [HL.out, HD.out, decide_eq_false hb, Bool.false_and]), hO.below⟩
      · obtain rfl : k = n := by omega
        go_wp2_with fail
        go_ret
        exact ⟨ret_bool (by rw [HL.out, List.drop_eq_nil_of_le (by have := HN.out; omega)]; rfl), hO.below⟩
  · rw [decide_eq_false h50, Bool.false_and]
    have hd : decide ((50 : Int) < n) = true := by simp; omega
    go_enter Try.func12, Try.ntmps12
    go_wp2_with fail
    go_ret
    exact ⟨rfl, hO.below⟩
end Go.Proofs.Ytiloammjejggjaa
