/- LinkAcked: what was acknowledged is told no more. -/
import Derived.Test.YtiloammjejggjaaLinkAwake
import Derived.Test.YtiloammjejggjaaLinkIn
import Derived.Test.YtiloammjejggjaaLinkSub
import Derived.Test.YtiloammjejggjaaRegionTU
import Derived.Test.YtiloammjejggjaaLawAid
import Derived.Deep.QuietTactic
import Derived.BigQuiet
set_option linter.unusedSimpArgs false
set_option linter.unusedVariables false
namespace Go.Proofs.Ytiloammjejggjaa
open Go.ChangeShapes Go.WideShapes Go.ChangeAt Go.RowKit
open Go.ChangeMaps (open_string shut_string)

def no8 (cs : Array Value) : Bool := cs.all fun v => !is8 v
/-- How an operation may turn the world: the one numbered s stores a link into a box; the others make memory at most. -/
def WaysA (B s i : Nat) (w w' : World) : Prop := Below B w w' ∧ (i ≠ s → Below w.heap.size w w') ∧ (i = s → w' = w ∨ ∃ g cs new, Blk w g 25 cs ∧ no8 cs = true ∧ Blk w' g 25 new ∧ no8 new = true ∧ new.size = cs.size ∧ w'.heap.size = w.heap.size ∧ ∀ k, k ≠ g → w'.heap[k]? = w.heap[k]?)
theorem waysA_same (B s i : Nat) (w : World) : WaysA B s i w w := ⟨Below.refl _ _, fun _ => Below.refl _ _, fun _ => .inl rfl⟩
theorem waysA_below {B s i : Nat} {w w' : World} (hB : B ≤ w.heap.size) (h : Below w.heap.size w w') (hi : i ≠ s) : WaysA B s i w w' := ⟨h.mono hB, fun _ => h, fun e => absurd e hi⟩
def BoxW (B : Nat) : Value → World → Prop := fun v w => ∃ g cs, v = .pointer (some ⟨g, 0, none⟩) ∧ B ≤ g ∧ Blk w g 25 cs ∧ cs.size = 5 ∧ no8 cs = true
theorem BoxW.keep {B s i : Nat} {v : Value} {w w' : World} (h : BoxW B v w) (ht : WaysA B s i w w') : BoxW B v w' := by
  obtain ⟨g, cs, e, hg, hb, hs, hn⟩ := h
  by_cases hi : i = s
  · rcases ht.2.2 hi with rfl | ⟨g', cs', new, h1, h2, h3, h4, h5, h6, h7⟩
    · exact ⟨g, cs, e, hg, hb, hs, hn⟩
    · by_cases hgg : g = g'
      · subst hgg
        refine ⟨g, new, e, hg, h3, ?_, h4⟩
        have : cs' = cs := by
          unfold Blk at h1 hb
          rw [hb] at h1
          simp at h1
          exact h1.symm
        rw [h5, this, hs]
      · exact ⟨g, cs, e, hg, (h7 g hgg).trans hb, hs, hn⟩
  · exact ⟨g, cs, e, hg, hb.below (ht.2.1 hi) hb.lt, hs, hn⟩
theorem IsWaitsN.keep {base B s i : Nat} {ws : List Wt} {v : Value} {w w' : World} (h : IsWaitsN base ws v w) (ht : WaysA B s i w w') : IsWaitsN base ws v w' := by
  by_cases hi : i = s
  · rcases ht.2.2 hi with rfl | ⟨g', cs', new, h1, h2, h3, h4, h5, h6, h7⟩
    · exact h
    · exact h.farT h1 h2 h6 h7
  · exact h.grow (ht.2.1 hi)
/-- A link and no error, as a call hands them back; a link alone. -/
def ResA (x1 x2 x3 x4 er : Int) (ws : List Wt) (n : Nat) : Value → World → Prop := fun v w => ∃ A c, v = .tuple #[.agg #[.int .i64 x1, .int .i64 x2, .int .i64 x3, .int .i64 x4, .slice A n c], .int .i64 er] ∧ IsWaitsN 0 ws (.slice A n c) w
def AggA (x1 x2 x3 x4 : Int) (ws : List Wt) (n : Nat) : Value → World → Prop := fun v w => ∃ A c, v = .agg #[.int .i64 x1, .int .i64 x2, .int .i64 x3, .int .i64 x4, .slice A n c] ∧ IsWaitsN 0 ws (.slice A n c) w
theorem ResA.keep {x1 x2 x3 x4 er : Int} {ws : List Wt} {n B s i : Nat} {v : Value} {w w' : World} (h : ResA x1 x2 x3 x4 er ws n v w) (ht : WaysA B s i w w') : ResA x1 x2 x3 x4 er ws n v w' := by
  obtain ⟨A, c, e, hu⟩ := h
  exact ⟨A, c, e, hu.keep ht⟩
theorem AggA.keep {x1 x2 x3 x4 : Int} {ws : List Wt} {n B s i : Nat} {v : Value} {w w' : World} (h : AggA x1 x2 x3 x4 ws n v w) (ht : WaysA B s i w w') : AggA x1 x2 x3 x4 ws n v w' := by
  obtain ⟨A, c, e, hu⟩ := h
  exact ⟨A, c, e, hu.keep ht⟩
/-- The box that operation j laid holds a link. -/
def FullA (B j : Nat) (x1 x2 x3 x4 : Int) (ws : List Wt) (n : Nat) : (Nat → Value) → World → Prop := fun u w => ∃ g A c, u j = .pointer (some ⟨g, 0, none⟩) ∧ B ≤ g ∧ Blk w g 25 #[.int .i64 x1, .int .i64 x2, .int .i64 x3, .int .i64 x4, .slice A n c] ∧ IsWaitsN 0 ws (.slice A n c) w
theorem FullA.keep {B j s i : Nat} {x1 x2 x3 x4 : Int} {ws : List Wt} {n : Nat} {u : Nat → Value} {v : Value} {w w' : World} (h : FullA B j x1 x2 x3 x4 ws n u w) (ht : WaysA B s i w w') (hi : i ≠ s) (hj : i ≠ j) : FullA B j x1 x2 x3 x4 ws n (upd u i v) w' := by
  obtain ⟨g, A, c, e, hg, hb, hu⟩ := h
  exact ⟨g, A, c, by rw [upd_other u v (fun e => hj e.symm)]; exact e, hg, hb.below (ht.2.1 hi) hb.lt, hu.keep ht⟩

set_option maxRecDepth 100000 in
set_option maxHeartbeats 8000000 in
theorem linkAcked_early (l : Lk) (A : Option Addr) (n c : Nat) (xs : List (Wt × Value)) (now : Int) (w : World) (hx : xs.map (·.1) = l.waits) (hn : l.waits.length = n) (hW : WaitsAt w A xs) (hc : n ≤ 9223372036854775807) (he : ¬ (lightL l = true ∧ mayL l = true ∧ 0 ≤ now ∧ now ≤ 4294967294)) :
    Calls Try.prog 4 #[.agg #[.int .i64 l.period, .int .i64 l.most, .int .i64 l.quiet, .int .i64 l.heard, .slice A n c], .int .i64 now] w fun e w' => e = .returned (.bool true) ∧ Below w.heap.size w w' := by
  have hO : Own w _ [_] := (Own.nil w).new0 25 #[.int .i64 l.period, .int .i64 l.most, .int .i64 l.quiet, .int .i64 l.heard, .slice A n c]
  have hli := fun W (h : WaitsAt W A xs) => rllight_k l A n c xs W hx hn h hc
  have hma := fun W (h : WaitsAt W A xs) => lkmay_k l A n c xs W hx hn h hc
  generalize lightL l = b1 at *
  generalize mayL l = b2 at *
  have hcase : b1 = false ∨ (b1 = true ∧ b2 = false) ∨ (b1 = true ∧ b2 = true ∧ decide (now < 0) = true) ∨ (b1 = true ∧ b2 = true ∧ decide (now < 0) = false ∧ decide (4294967294 < now) = true) := by
    cases b1 <;> cases b2 <;> simp at he ⊢
    omega
  clear he hx hn
  rcases hcase with rfl | ⟨rfl, rfl⟩ | ⟨rfl, rfl, h1⟩ | ⟨rfl, rfl, h1, h2⟩
  all_goals
    go_enter Try.func4, Try.ntmps4
    go_wp2_with (first
      | (go_at_call 8; (with_reducible refine (awake12_any _).mono ?_); rintro e w1 ⟨rfl, hb1⟩; replace hO := hO.grow hb1)
      | ((with_reducible refine own_loadg0 hO ?_ _ rfl rfl _ Try.underlying25 rfl (by kernel_rfl) ?_); (· first | rfl | (simp [Region.wanted, yielded]; done)))
      | (go_at_call 12; (with_reducible refine (hli _ (hW.below hO.below)).mono ?_); rintro e w1 ⟨rfl, hb1⟩; replace hO := hO.grow hb1)
      | (go_at_call 13; (with_reducible refine (hma _ (hW.below hO.below)).mono ?_); rintro e w1 ⟨rfl, hb1⟩; replace hO := hO.grow hb1)
      )
    go_ret
    exact ⟨rfl, hO.below⟩
set_option maxRecDepth 100000 in
set_option maxHeartbeats 16000000 in
theorem linkAcked_main (l : Lk) (A : Option Addr) (n c : Nat) (xs : List (Wt × Value)) (now : Int) (w : World) (hx : xs.map (·.1) = l.waits) (hn : l.waits.length = n) (hW : WaitsAt w A xs) (hc : n ≤ 9223372036854775807) (hcp : n ≤ c ∧ c ≤ maxLen) (hl : lightL l = true) (hm : mayL l = true) (hn0 : 0 ≤ now) (hn1 : now ≤ 4294967294) :
    Calls Try.prog 4 #[.agg #[.int .i64 l.period, .int .i64 l.most, .int .i64 l.quiet, .int .i64 l.heard, .slice A n c], .int .i64 now] w fun e w' => e = .returned (.bool true) ∧ Below w.heap.size w w' := by
  have hO : Own w _ [_] := (Own.nil w).new0 25 #[.int .i64 l.period, .int .i64 l.most, .int .i64 l.quiet, .int .i64 l.heard, .slice A n c]
  have hli := fun W (h : WaitsAt W A xs) => rllight_k l A n c xs W hx hn h hc
  have hma := fun W (h : WaitsAt W A xs) => lkmay_k l A n c xs W hx hn h hc
  rw [hl] at hli
  rw [hm] at hma
  obtain ⟨hT, hs⟩ := mayL_sorted hm
  obtain ⟨a1, a2, a3, a4, a5, a6, ⟨a7, a8⟩, hlen⟩ := mayL_head hm
  have hak : ∀ x ∈ l.waits, ∀ W u, IsWaits l.waits u W → Calls Try.prog 14 #[.agg #[.int .i64 l.period, .int .i64 l.most, .int .i64 l.quiet, .int .i64 l.heard, u], .int .i64 x.t] W fun e w' => ∃ z, e = .returned z ∧ ResA l.period l.most l.quiet l.heard 0 (delW l.waits x.t) (n - 1) z w' ∧ Below W.heap.size W w' := fun x hx W u hu => by
    obtain ⟨t1, t2⟩ := isTime_iff.1 (hT x hx)
    have e1 : ackedE l x.t = 0 := by unfold ackedE; rw [hm, findB_mem hx]; rfl
    refine (lkacked_u l u x.t W hu (by omega) (by omega)).mono ?_
    rintro e w' ⟨v, rfl, hv, hb⟩
    unfold ackedL at hv
    rw [if_pos e1] at hv
    rw [e1]
    obtain ⟨u', rfl, hN⟩ := hv
    obtain ⟨A', c', xs', rfl, hr⟩ := hN
    obtain ⟨k, hk⟩ := List.getElem?_of_mem hx
    have hdl := (del_at hs hk).2.1
    refine ⟨_, rfl, ⟨A', c', ?_, ⟨A', c', xs', ?_, hr.1, hr.2.mono (Nat.zero_le _)⟩⟩, hb⟩
    · show _ = _
      rw [show (delW l.waits x.t).length = n - 1 by omega]
    · rw [show (delW l.waits x.t).length = n - 1 by omega]
  have htk : ∀ ws', ws'.Sublist l.waits → ∀ W u, IsWaits ws' u W → Calls Try.prog 15 #[.agg #[.int .i64 l.period, .int .i64 l.most, .int .i64 l.quiet, .int .i64 l.heard, u], .int .i64 now] W fun e w' => ∃ A c m Ao q co b, e = .returned (.tuple #[.agg #[.int .i64 l.period, .int .i64 l.most, .int .i64 l.quiet, .int .i64 l.heard, .slice A m c], .slice Ao q co, .bool b, .int .i64 0]) ∧ q ≤ ws'.length ∧ (b = true → q = 0) ∧ b = lostL ⟨l.period, l.most, l.quiet, l.heard, ws'⟩ now ∧ Below W.heap.size W w' := fun ws' hsub W u hu => by
    have hm' := mayL_sub hm hsub
    have e1 : heardE ⟨l.period, l.most, l.quiet, l.heard, ws'⟩ now = 0 := by unfold heardE; rw [hm', isTime_iff.2 ⟨hn0, hn1⟩]; rfl
    refine (lktick_u ⟨l.period, l.most, l.quiet, l.heard, ws'⟩ u now W hu).mono ?_
    rintro e w' ⟨v, o, rfl, hv, ho, hb⟩
    obtain ⟨q1, q2⟩ := tickO_len ⟨l.period, l.most, l.quiet, l.heard, ws'⟩ now
    obtain ⟨Ao, co, vs, rfl, _⟩ := ho
    rw [e1]
    have hv' : ∃ ws2, IsLinkN W.heap.size ⟨l.period, l.most, l.quiet, l.heard, ws2⟩ v w' := by
      unfold tickL at hv
      rw [if_pos e1] at hv
      split at hv
      · exact ⟨_, hv⟩
      · exact ⟨_, hv⟩
    obtain ⟨ws2, u', rfl, A', c', xs', rfl, _⟩ := hv'
    refine ⟨A', c', _, Ao, _, co, _, rfl, q1, fun h => by rw [q2 h]; rfl, ?_, hb⟩
    unfold tickB
    rw [if_pos e1]
  have hdel : ∀ (k : Nat) (x : Wt), l.waits[k]? = some x → (delW l.waits x.t).length + 1 = n ∧ ∀ y ∈ delW l.waits x.t, y.t ≠ x.t := fun k x hk => by
    have := del_at hs hk
    exact ⟨by omega, this.2.2⟩
  have hsb := fun t => delW_sub l.waits t
  have hl0 : ∀ b, b = lostL ⟨l.period, l.most, l.quiet, l.heard, []⟩ now → b = decide (l.heard + l.quiet < now) := fun b h => by rw [h]; simp [lostL]
  clear hl hm hT hs
  obtain ⟨ws, hws⟩ : ∃ ws, ws = l.waits := ⟨_, rfl⟩
  rw [← hws] at hx hn hak htk hdel hlen hsb
  clear hws
  generalize l.period = x1 at *
  generalize l.most = x2 at *
  generalize l.quiet = x3 at *
  generalize l.heard = x4 at *
  have hcapd := Lib.hid hcp
  clear hcp
  have HN := Lib.hid hn
  have HX := Lib.hid hx
  have HD := Lib.hid hdel
  have HL0 := Lib.hid hl0
  clear hn hx hdel hl0
  have d1 : decide (now < 0) = false := by simp; omega
  have d2 : decide (4294967294 < now) = false := by simp; omega
  go_enter Try.func4, Try.ntmps4
  go_wp2_with (first
    | (go_at_call 8; (with_reducible refine (awake12_any _).mono ?_); rintro e w1 ⟨rfl, hb1⟩; replace hO := hO.grow hb1)
    | ((with_reducible refine own_loadg0 hO ?_ _ rfl rfl _ Try.underlying25 rfl (by kernel_rfl) ?_); (· first | rfl | (simp [Region.wanted, yielded]; done)))
    | (go_at_call 12; (with_reducible refine (hli _ (hW.below hO.below)).mono ?_); rintro e w1 ⟨rfl, hb1⟩; replace hO := hO.grow hb1)
    | (go_at_call 13; (with_reducible refine (hma _ (hW.below hO.below)).mono ?_); rintro e w1 ⟨rfl, hb1⟩; replace hO := hO.grow hb1)
    )
  clear hli hma d1 d2
  replace hW := hW.below hO.below
  go_loopw [7] (fun i wr => ∃ k : Nat, k ≤ n ∧ i = .int .i64 k ∧ Own w wr [(w.heap.size, 25, #[.int .i64 x1, .int .i64 x2, .int .i64 x3, .int .i64 x4, .slice A n c])] ∧ WaitsAt wr A xs) (fun i _ => n - (intOf i).toNat)
  case atStart => exact ⟨0, Nat.zero_le _, rfl, hO, hW⟩
  case round =>
    clear hO hW
    obtain ⟨k, hk, rfl, hO, hW⟩ := hrel
    have hcl := hO.b0.cell
    have hlt0 := hO.b0.lt
    by_cases hlt : k < n
    · obtain ⟨x, Ab, cb, b, off, hwk, hxk, rfl, hbl, hc0, hc1, hc2, hc3, hB⟩ := hW.get (k := k) HX.out (by have h1 := HN.out; omega)
      have hakx := hak x (List.mem_of_getElem? hwk)
      have HDX := Lib.hid (HD.out k x hwk)
      have htkx : ∀ W u, IsWaits (delW ws x.t) u W → Calls Try.prog 15 #[.agg #[.int .i64 x1, .int .i64 x2, .int .i64 x3, .int .i64 x4, u], .int .i64 now] W fun e w' => ∃ A c m Ao q co b, e = .returned (.tuple #[.agg #[.int .i64 x1, .int .i64 x2, .int .i64 x3, .int .i64 x4, .slice A m c], .slice Ao q co, .bool b, .int .i64 0]) ∧ q ≤ (delW ws x.t).length ∧ (b = true → q = 0) ∧ Below W.heap.size W w' := fun W u hu => (htk (delW ws x.t) (hsb x.t) W u hu).mono fun e w' ⟨A, c, m, Ao, q, co, b, h1, h2, h3, _, h5⟩ => ⟨A, c, m, Ao, q, co, b, h1, h2, h3, h5⟩
      have huw : IsWaits ws (.slice (some ⟨b, off, none⟩) n c) wr := ⟨some ⟨b, off, none⟩, c, xs, by rw [HN.out], HX.out, hW, by have := hcapd.out; rw [HN.out]; exact this.1, hcapd.out.2⟩
      clear hak htk hwk hxk hB hc1 hc2 hc3
      generalize hdw : delW ws x.t = dw at *
      generalize x.t = xt at *
      go_wp2_with fail
      apply wp_region_lextu (Below wr.heap.size) (fun W => below_drewN (Below.refl _ _) 1) (fun _ _ _ h1 h2 => h1.trans h2) (WaysA wr.heap.size 12) (fun _ _ _ h => h.1) (fun _ _ => waysA_same _ _ _ _) (fun _ _ => True) (fun _ => trivial) (fun _ _ _ _ _ _ _ => trivial)
      case hFl =>
        intro u
        simp only [List.map, fill, Act.put, List.setIfInBounds_toArray, List.set_cons_zero, List.set_cons_succ, Nat.reduceAdd, Nat.zero_add]
        rfl
      case hm => kernel_rfl
      case hB => kernel_rfl
      case hA => kernel_rfl
      case hap => kernel_rfl
      --@@ first
      refine LexTU.one (Is (.agg #[.int .i64 x1, .int .i64 x2, .int .i64 x3, .int .i64 x4, .slice (some ⟨b, off, none⟩) n c])) ?_ ?_
      · (intro u w' hk hpre hd
         have hbk := hO.b0.below hk hO.b0.lt
         refine lookedT_want (by first | rfl | simp [Region.wanted, yielded]) ?_
         intro K hK
         exact wp_load_row 25 _ rfl _ rfl 25 _ (0, 0) _ hbk Try.underlying25 rfl (by kernel_rfl) (hK _ _ (waysA_same _ _ _ _) rfl))
      iterate 6 (
        apply LexTU.is
        · (intro u w' hk hpre hd
           simp [WaitedU, Region.binds, Own1, Is] at hd
           refine lookedT_want (by first | rfl | simp [Region.wanted, yielded, hd]) ?_
           intro K hK
           obtain ⟨hcR, _⟩ := bcell hk
           go_wp2_with fail
           try simp only [hd] at hK
           refine hK _ _ ?_ rfl
           exact waysA_same _ _ _ _)
        )
      refine LexTU.one (ResA x1 x2 x3 x4 0 dw (n - 1)) ?_ ?_
      · (intro u w' hk hpre hd
         simp [WaitedU, Region.binds, Own1, Is] at hd
         refine lookedT_want (by first | rfl | simp [Region.wanted, yielded, hd]) ?_
         intro K hK
         go_wp2_with (go_at_call 14; (with_reducible refine (hakx _ _ (huw.grow hk)).mono ?_); rintro e w3 ⟨z, rfl, hz, hb3⟩)
         try simp only [hd] at hK
         exact hK _ _ (waysA_below hk.size hb3 (by decide)) hz)
      refine LexTU.one (ResA x1 x2 x3 x4 0 dw (n - 1)) ?_ ?_
      · (intro u w' hk hpre hd
         simp [WaitedU, Region.binds, Own1, Is] at hd
         refine lookedT_want (by first | rfl | simp [Region.wanted, yielded]) ?_
         intro K hK
         go_wp2_with fail
         exact hK _ _ (waysA_same _ _ _ _) hd)
      refine LexTU.one (AggA x1 x2 x3 x4 dw (n - 1)) ?_ ?_
      · (intro u w' hk hpre hd
         simp [WaitedU, Region.binds, Own1, Is] at hd
         obtain ⟨A3, c3, h8, hu3⟩ := hd
         refine lookedT_want (by first | rfl | simp [Region.wanted, yielded]) ?_
         intro K hK
         go_wp2_with fail
         try simp only [h8] at hK
         exact hK _ _ (waysA_same _ _ _ _) ⟨A3, c3, rfl, hu3⟩)
      refine LexTU.one (Is (.int .i64 0)) ?_ ?_
      · (intro u w' hk hpre hd
         simp [WaitedU, Region.binds, Own1, Is] at hd
         obtain ⟨A3, c3, h8, hu3⟩ := hd
         refine lookedT_want (by first | rfl | simp [Region.wanted, yielded]) ?_
         intro K hK
         go_wp2_with fail
         try simp only [h8] at hK
         exact hK _ _ (waysA_same _ _ _ _) rfl)
      refine LexTU.one (BoxW wr.heap.size) ?_ ?_
      · (intro u w' hk hpre hd
         clear hd
         refine lookedT_want (by first | rfl | simp [Region.wanted, yielded]) ?_
         intro K hK
         go_wp2_with fail
         exact hK _ _ (waysA_below hk.size ((Below.refl _ _).alloc (Nat.le_refl _) _) (by decide)) ⟨w'.heap.size, _, rfl, hk.size, Blk.new w' 25 #[.int .i64 0, .int .i64 0, .int .i64 0, .int .i64 0, .slice none 0 0], rfl, by simp [no8, is8]⟩)
      refine LexTU.word (FullA wr.heap.size 11 x1 x2 x3 x4 dw (n - 1)) ?_ ?_
      · (intro u w' hk hpre hd
         simp [WaitedU, Region.binds, Own1, Is] at hd
         obtain ⟨⟨g, cs, h11, hg, hb, hsz, hno⟩, ⟨A3, c3, h9, hu3⟩, _⟩ := hd
         refine lookedU_want (by first | rfl | simp [Region.wanted, yielded]) ?_
         intro K hK
         have hfar : ∀ k, k ≠ g → (w'.setRow g #[.int .i64 x1, .int .i64 x2, .int .i64 x3, .int .i64 x4, .slice A3 (n - 1) c3]).heap[k]? = w'.heap[k]? := fun k hk => setRow_other w' g k _ hk
         have hno3 : no8 #[.int .i64 x1, .int .i64 x2, .int .i64 x3, .int .i64 x4, .slice A3 (n - 1) c3] = true := by simp [no8, is8]
         exact wp_store_row 25 (.tmp 8) (.tmp 59) rfl g #[.int .i64 x1, .int .i64 x2, .int .i64 x3, .int .i64 x4, .slice A3 (n - 1) c3] (by rw [← h11]; rfl) (by rw [← h9]; rfl) 25 cs hb (by kernel_rfl) hsz (by simp [Value.oneCell']) (hK undef _
           ⟨below_row (Below.refl _ _) hg _, fun h => absurd rfl h, fun _ => .inr ⟨g, cs, #[.int .i64 x1, .int .i64 x2, .int .i64 x3, .int .i64 x4, .slice A3 (n - 1) c3], hb, hno, hb.row _, hno3, hsz.symm, by simp, hfar⟩⟩
           ⟨g, A3, c3, by rw [upd_other u undef (by decide)]; exact h11, hg, hb.row _, hu3.farT hb hno (by simp) hfar⟩))
      refine LexTU.last ?_ ?_
      · intro i' j Φ hij _ hfr hj u v W W' hΦ ht
        rcases j with _ | _ | _ | _ | _ | _ | _ | _ | _ | _ | _ | _ | _ | j
        all_goals simp only [List.nil_append, List.cons_append, List.getElem?_cons_zero, List.getElem?_cons_succ, List.getElem?_nil, Option.some.injEq, reduceCtorEq] at hj
        all_goals subst hj
        · exact own1_keep hij hΦ fun _ h => h
        · exact own1_keep hij hΦ fun _ h => h
        · exact own1_keep hij hΦ fun _ h => h
        · exact own1_keep hij hΦ fun _ h => h
        · exact own1_keep hij hΦ fun _ h => h
        · exact own1_keep hij hΦ fun _ h => h
        · exact own1_keep hij hΦ fun _ h => h
        · exact own1_keep hij hΦ fun _ h => ResA.keep h ht
        · exact own1_keep hij hΦ fun _ h => ResA.keep h ht
        · exact own1_keep hij hΦ fun _ h => AggA.keep h ht
        · exact own1_keep hij hΦ fun _ h => h
        · exact own1_keep hij hΦ fun _ h => BoxW.keep h ht
        · exact FullA.keep hΦ ht hij (fun e => hfr _ rfl ⟨11, .data⟩ (by simp) rfl e.symm)
      · intro u w2 hk2 _ hd
        simp only [List.nil_append, List.cons_append] at hd
        obtain ⟨g, A3, c3, hu11, hg, hbg, hu3⟩ := hd 12 _ rfl
        have hu10 := hd 10 _ rfl
        simp only [Own1, Is] at hu10
        clear hd
        refine ⟨rfl, ?_⟩
        intro K hK
        have hO2 : Own w w2 [(w.heap.size, 25, #[.int .i64 x1, .int .i64 x2, .int .i64 x3, .int .i64 x4, .slice (some ⟨b, off, none⟩) n c]), (g, 25, #[.int .i64 x1, .int .i64 x2, .int .i64 x3, .int .i64 x4, .slice A3 (n - 1) c3])] := by
          have h1 := (hO.below.trans (hk2.mono hO.below.size))
          refine ⟨h1, fun y hy => ?_, by simp; omega⟩
          simp at hy
          rcases hy with rfl | rfl
          · exact ⟨Nat.le_refl _, hO.b0.below hk2 hO.b0.lt⟩
          · exact ⟨by show w.heap.size ≤ g; omega, hbg⟩
        have hW2 := hW.below hk2
        have hc02 : w2.cell? ⟨b, off + k * 4, none⟩ = some (.int .i64 xt) := (hk2.cell (p := ⟨b, off + k * 4, none⟩) hbl).trans hc0
        have hO := hO2
        clear hO2
        have hcl2 := hO.b0.cell
        simp only [hu11, hu10]
        clear hu11 hu10 hakx hcl
        go_wp2_with (first
          | ((with_reducible refine own_loadg1 hO ?_ _ rfl rfl _ Try.underlying25 rfl (by kernel_rfl) ?_); (· first | rfl | (simp [Region.wanted, yielded]; done)))
          | (go_at_call 15; (with_reducible refine (htkx _ _ hu3.is).mono ?_); rintro e w4 ⟨A4, c4, m4, Ao, qo, co, bo, rfl, hq1, hq2, hb4⟩; have hd3 : decide ((n : Int) - 1 < (qo : Int)) = false := (by simp; have := HDX.out.1; omega); have hq4 : bo = true → decide (0 < qo) = false := (fun h => by simp [hq2 h]); clear hq1 hq2; have hz2 := hO.b0.lt; have hz3 := hO.b1.lt; replace hO := (hO.grow hb4).new2 25 #[.int .i64 x1, .int .i64 x2, .int .i64 x3, .int .i64 x4, .slice A4 m4 c4]; have hcl4 := hO.b0.cell)
          )
        all_goals
          have hu4 : IsWaitsN 0 dw (.slice A3 (n - 1) c3) (w4.alloc (.cells #[.int .i64 x1, .int .i64 x2, .int .i64 x3, .int .i64 x4, .slice A4 m4 c4] 25)) := (hu3.grow hb4).alloc _
          have hW4 := (hW2.below hb4).alloc (.cells #[.int .i64 x1, .int .i64 x2, .int .i64 x3, .int .i64 x4, .slice A4 m4 c4] 25)
          have hc04 : (w4.alloc (.cells #[.int .i64 x1, .int .i64 x2, .int .i64 x3, .int .i64 x4, .slice A4 m4 c4] 25)).cell? ⟨b, off + k * 4, none⟩ = some (.int .i64 xt) := (World.cell?_alloc_lt _ _ _ (Nat.lt_of_lt_of_le (Nat.lt_of_lt_of_le hbl hk2.size) hb4.size)).trans ((hb4.cell (p := ⟨b, off + k * 4, none⟩) (Nat.lt_of_lt_of_le hbl hk2.size)).trans hc02)
          generalize (w4.alloc (.cells #[.int .i64 x1, .int .i64 x2, .int .i64 x3, .int .i64 x4, .slice A4 m4 c4] 25)) = wI at *
        all_goals
          obtain ⟨A', c', ys, e, hys, hWd, _⟩ := hu4.is
          have hdl : dw.length = n - 1 := by have := HDX.out.1; omega
          rw [hdl] at e
          simp only [Value.slice.injEq, true_and] at e
          obtain ⟨rfl, rfl⟩ := e
          have HYS := Lib.hid hys
          have HDL := Lib.hid hdl
          clear hys hdl hu4 hd3 hq4 hcl2 hcl4 hc02 hW2
          obtain ⟨wo, hwo⟩ : ∃ wo : World, wo = wr := ⟨_, rfl⟩
          have hOI := hO
          clear hO
          go_loopw [14] (fun j wj => ∃ jn : Nat, jn ≤ n - 1 ∧ j = .int .i64 jn ∧ Below wI.heap.size wI wj) (fun j _ => n - 1 - (intOf j).toNat)
          case atStart => exact ⟨0, Nat.zero_le _, rfl, Below.refl _ _⟩
          case round =>
            obtain ⟨j, hj, rfl, hbj⟩ := hrel
            have hOj := hOI.grow hbj
            have hclj := hOj.b0.cell
            have hcgj := hOj.b1.cell
            have hWj := hWd.below hbj
            by_cases hjn : j < n - 1
            · obtain ⟨y, Ay, cy, by', oy, hwy, hxy, rfl, hbly, hy0, hy1, hy2, hy3, hBy⟩ := hWj.get (k := j) HYS.out (by have h1 := HDL.out; omega)
              have hne : (y.t == xt) = false := by simpa using HDX.out.2 y (List.mem_of_getElem? hwy)
              have hcx := (hbj.cell (p := ⟨b, off + k * 4, none⟩) (by
                rcases Nat.lt_or_ge b wI.heap.size with h | h
                · exact h
                · simp [World.cell?, Array.getElem?_eq_none h] at hc04)).trans hc04
              have hltn : j < n := by omega
              clear hwy hxy hBy hy1 hy2 hy3
              generalize y.t = yt at *
              go_wp2_with fail
              go_quiet (fail)
              go_wp2_with fail
              go_roundw
              case rel => exact ⟨j + 1, by omega, by go_num, below_drewN hbj _⟩
              case measure => simp [intOf]; omega
            · obtain rfl : j = n - 1 := by omega
              go_wp2_with fail
              go_roundw
              case rel => exact ⟨k + 1, by omega, by go_num, ⟨hOj.below, fun z hz => hOj.blk z (by simp at hz; simp [hz]), by simp⟩, hW4.below hbj⟩
              case measure => simp [intOf]; omega
    · obtain rfl : k = n := by omega
      have htk0 : ∀ W u, IsWaits [] u W → Calls Try.prog 15 #[.agg #[.int .i64 x1, .int .i64 x2, .int .i64 x3, .int .i64 x4, u], .int .i64 now] W fun e w' => ∃ A c m Ao co, e = .returned (.tuple #[.agg #[.int .i64 x1, .int .i64 x2, .int .i64 x3, .int .i64 x4, .slice A m c], .slice Ao 0 co, .bool (decide (x4 + x3 < now)), .int .i64 0]) ∧ Below W.heap.size W w' := fun W u hu => by
        refine (htk [] (List.nil_sublist _) W u hu).mono ?_
        rintro e w' ⟨A, c, m, Ao, q, co, b, rfl, hq, _, hb, hbl⟩
        obtain rfl : q = 0 := by simpa using hq
        rw [HL0.out b hb]
        exact ⟨A, c, m, Ao, co, rfl, hbl⟩
      clear htk hak hsb
      by_cases hq : x4 + x3 < now
      all_goals
        first
        | rw [show decide (x4 + x3 < now) = true from decide_eq_true hq] at htk0; have hd1 : decide (x3 < now - x4) = true := by simp; omega
        | rw [show decide (x4 + x3 < now) = false from decide_eq_false hq] at htk0; have hd1 : decide (x3 < now - x4) = false := by simp; omega
        clear hq
        go_wp2_with (first
          | ((with_reducible refine own_loadg0 hO ?_ _ rfl rfl _ Try.underlying25 rfl (by kernel_rfl) ?_); (· first | rfl | (simp [Region.wanted, yielded]; done)))
          | (go_at_call 15; (with_reducible refine (htk0 _ _ (IsWaits.nil _)).mono ?_); rintro e w4 ⟨A4, c4, m4, Ao, co, rfl, hb4⟩; replace hO := hO.grow (below_of_alloc hb4); have hcl4 := hO.b0.cell; have hlt4 := hO.b0.lt)
          )
        go_ret
        exact ⟨rfl, hO.below.trans (((Below.refl _ _).alloc (Nat.le_refl _) _).mono hO.below.size)⟩
theorem linkAcked_walk (v : Value) (l : Lk) (now : Int) (_ : -9223372036854775808 ≤ now) (_ : now ≤ 9223372036854775807) (w : World) (hv : IsLink l v w) :
    Calls Try.prog 4 #[v, .int .i64 now] w fun e w' => e = .returned (.bool true) ∧ Below w.heap.size w w' := by
  obtain ⟨u, rfl, A, c, xs, rfl, hx, hW, h1, h2⟩ := hv
  have hc : l.waits.length ≤ 9223372036854775807 := by simp only [maxLen] at h2; omega
  by_cases he : lightL l = true ∧ mayL l = true ∧ 0 ≤ now ∧ now ≤ 4294967294
  · exact linkAcked_main l A _ c xs now w hx rfl hW hc ⟨h1, h2⟩ he.1 he.2.1 he.2.2.1 he.2.2.2
  · exact linkAcked_early l A _ c xs now w hx rfl hW hc he

set_option maxRecDepth 100000 in
theorem linkAcked_lifted (os : Os) (started : os.Started) (H : Type) (enc : TypeId × Value → H) :
    ReturnsInHanded {} Try.checked os 4 .any (Rows.linkAckedSpec.pre6 enc Try.prog Try.f4 Rows.linkAckedRow.domain false) (Rows.linkAckedSpec.post enc Try.prog Try.f4 false true false false) := by
  refine returnsInHanded_of_change (C := Try.checked) own started (by kernel_rfl) Try.func4
    (ChangeSpec.witness6 (enc := enc) (C := Try.checked) false ⟨#[], #[.agg #[.int .i64 0, .int .i64 0, .int .i64 0, .int .i64 0, .slice none 0 0], .int .i64 0], []⟩ 8 (by kernel_rfl) (by kernel_rfl) (by kernel_rfl) (by kernel_rfl)) ?_
  intro W base args ds gs before hval0 hW hcnd _
  have hval : ∀ (j : Nat) t v, Try.f4.params[j]? = some t → args[j]? = some v → Value.okWide Try.prog W .any base t v := hval0
  have hW' := hW
  obtain ⟨p, q, hA0, hV, rfl, hfz, hnd⟩ := hW
  have hA : DataW.TrodAll enc Try.prog W 0 (fun _ => true) true Try.f4.params.toList args.toList ds p := hA0
  rw [Try.params4] at hA hval
  obtain ⟨v0, vs0, d0, ds0, p0, q0, hargs, rfl, rfl, h0, r0⟩ := trodAll_cons hA
  obtain ⟨v1, vs1, d1, ds1, p1, q1, rfl, rfl, rfl, h1, r1⟩ := trodAll_cons r0
  obtain ⟨rfl, rfl, rfl⟩ := trodAll_nil r1
  obtain rfl : args = #[v0, v1] := by cases args; simp_all
  obtain ⟨rfl, rfl⟩ := trodVars_none hV
  have k0 := h0
  have lt0 : ∀ x ∈ p0, x.block < W.heap.size := by obtain ⟨m, hm⟩ := k0; exact DataW.trod_lt m _ _ _ hm
  have k1 := h1
  have lt1 : ∀ x ∈ p1, x.block < W.heap.size := by obtain ⟨m, hm⟩ := k1; exact DataW.trod_lt m _ _ _ hm
  obtain ⟨s0, b0⟩ := open_link (hval 0 25 v0 rfl rfl) h0
  obtain ⟨a1, rfl, _, _, w1⟩ := open_int Try.underlying3 (hval 1 3 v1 rfl rfl) h1
  clear hA0 hval0
  refine (linkAcked_walk v0 s0 a1 (bounds_i64 w1).1 (bounds_i64 w1).2 W b0).mono fun e W' ⟨he, bel⟩ => ?_
  subst he
  exact ⟨_, rfl, _, _, _, [], _, [], hW', trodAll_mk1 (shut_bool Try.underlying4 _), (trodAll_cons_mk (Below.trod laidOut (by kernel_rfl) (of_decide_eq_true (by kernel_rfl)) k0 bel lt0) (trodAll_cons_mk (Below.trod laidOut (by kernel_rfl) (of_decide_eq_true (by kernel_rfl)) k1 bel lt1) trodAll_mk0)), rfl, bel.frame _, fun h => by cases h⟩

theorem linkAcked_over : Rows.linkAckedRow.holds Try.pinned (OpenSpec.ofChange Rows.linkAckedSpec) :=
  OpenClaim.holds_of_wide 4 Try.f4 rfl rfl rfl rfl rfl rfl rfl ⟨rfl, rfl, rfl, rfl, rfl⟩ rfl rfl rfl rfl rfl (by kernel_rfl) Try.func4 (by kernel_rfl)
    (of_decide_eq_true (by kernel_rfl)) (by unfold Func.isWrapper; rw [if_neg (of_decide_eq_false (by kernel_rfl))]; exact ⟨rfl, rfl⟩)
    (fun os started H enc _ => linkAcked_lifted os started H enc)

/-- THE STATEMENT. -/
theorem linkAcked_holds : Rows.LinkAckedSaid := linkAcked_over
end Go.Proofs.Ytiloammjejggjaa
