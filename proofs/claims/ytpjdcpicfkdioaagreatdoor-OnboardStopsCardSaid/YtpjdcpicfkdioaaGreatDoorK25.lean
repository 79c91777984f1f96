/- Texts in one: StepB. -/
import Derived.Test.YtpjdcpicfkdioaaGreatDoorK24
import Derived.Deep.MidRow
set_option linter.unusedSimpArgs false
set_option linter.unusedVariables false
/- onboard.Step$4: a train is moved. -/
namespace Go.Proofs.YtpjdcpicfkdioaaGreatDoor
open Go.RowKit Go.Shelf

theorem cab_tr {W : World} {g : Nat} {t : TypeId} {m : TpM} {x : Tr} {xm : TrM} {now : Int} (hB : Blk W g t (cabC m x xm now)) : W.rangeAt g 4 (trC x xm).toList := by
  intro j v hv
  rw [hB.cell]
  unfold cabC
  have hj : j < 48 := by
    have := (List.getElem?_eq_some_iff.1 hv).1
    simpa [trC_size] using this
  have h4 : m.cells.size = 4 := rfl
  rw [Array.getElem?_append_left (by simp [h4, trC_size]; omega), Array.getElem?_append_right (by rw [h4]; omega), h4, Nat.add_sub_cancel_left]
  simpa using hv
theorem putAt_get : ∀ (vs : List Value) (o : Nat) (a : Array Value) (i : Nat), o + vs.length ≤ a.size → (putAt a o vs)[i]? = if o ≤ i ∧ i < o + vs.length then vs[i - o]? else a[i]?
  | [], o, a, i, h => by simp [putAt]; omega
  | v :: vs, o, a, i, h => by
    rw [putAt, putAt_get vs (o + 1) _ i (by simp at h ⊢; omega)]
    simp only [List.length_cons] at h ⊢
    by_cases h1 : o + 1 ≤ i ∧ i < o + 1 + vs.length
    · rw [if_pos h1, if_pos (by omega), show i - o = (i - (o + 1)) + 1 by omega, List.getElem?_cons_succ]
    · rw [if_neg h1]
      by_cases h2 : i = o
      · subst h2
        rw [if_pos (by omega), Array.getElem?_setIfInBounds_self_of_lt (by omega)]
        simp
      · rw [if_neg (by omega), Array.getElem?_setIfInBounds_ne (by omega)]
theorem putAt_cab (m : TpM) (x y : Tr) (xm : TrM) (now : Int) : putAt (cabC m x xm now) 4 (trC y xm).toList = cabC m y xm now := by
  have h4 : m.cells.size = 4 := rfl
  apply Array.ext_getElem?
  intro i
  rw [putAt_get _ _ _ _ (by rw [cabC_size]; simp [trC_size])]
  have hl : (trC y xm).toList.length = 48 := by simp [trC_size]
  unfold cabC
  by_cases h : 4 ≤ i ∧ i < 4 + (trC y xm).toList.length
  · rw [if_pos h]
    rw [hl] at h
    rw [Array.getElem?_append_left (by simp [h4, trC_size]; omega), Array.getElem?_append_right (by rw [h4]; omega), h4]
    simp
  · rw [if_neg h]
    rw [hl] at h
    by_cases hi : i < 4
    · rw [Array.getElem?_append_left (by simp [h4, trC_size]; omega), Array.getElem?_append_left (by rw [h4]; omega), Array.getElem?_append_left (by simp [h4, trC_size]; omega), Array.getElem?_append_left (by rw [h4]; omega)]
    · rw [Array.getElem?_append_right (by simp [h4, trC_size]; omega), Array.getElem?_append_right (by simp [h4, trC_size]; omega)]
      simp [h4, trC_size]
/-- How operation i of the region turns the world: the one that stores turns one block. -/
def TW (g s i : Nat) (W W' : World) : Prop := W.grownBy W' (some g) ∧ (i ≠ s → Below W.heap.size W W')
theorem below_grownBy {W W' : World} (h : Below W.heap.size W W') (r : Option Nat) : W.grownBy W' r := ⟨h.os, h.tape, h.output, h.size, fun k hk _ => h.block k hk⟩
theorem tw_same (g s i : Nat) (W : World) : TW g s i W W := ⟨below_grownBy (Below.refl _ _) _, fun _ => Below.refl _ _⟩
theorem tw_below {g s i : Nat} {W W' : World} (h : Below W.heap.size W W') : TW g s i W W' := ⟨below_grownBy h _, fun _ => h⟩
theorem grownBy_trans {W W1 W2 : World} {g : Nat} (h : W.grownBy W1 (some g)) (k : W1.grownBy W2 (some g)) : W.grownBy W2 (some g) :=
  ⟨k.os.trans h.os, k.tape.trans h.tape, k.output.trans h.output, Nat.le_trans h.size k.size, fun i hi hne => (k.block i (Nat.lt_of_lt_of_le hi h.size) hne).trans (h.block i hi hne)⟩
def StableW (ops : Array Oper) (T : Nat → World → World → Prop) (j : Nat) (Φ : (Nat → Value) → World → Prop) : Prop := ∀ i, i ≠ j → FreeOf ops i j → ∀ u v w w', Φ u w → T i w w' → Φ (upd u i v) w'
def StW (ops : Array Oper) (T : Nat → World → World → Prop) : Nat → List ((Nat → Value) → World → Prop) → Prop
  | _, [] => True
  | j, Φ :: l => StableW ops T j Φ ∧ StW ops T (j + 1) l
theorem stW_at {ops : Array Oper} {T : Nat → World → World → Prop} : ∀ (l : List ((Nat → Value) → World → Prop)) (k : Nat), StW ops T k l → ∀ j Φ, l[j]? = some Φ → StableW ops T (k + j) Φ
  | [], _, _, j, Φ, h => by simp at h
  | Ψ :: l, k, h, 0, Φ, hj => by
    simp at hj
    subst hj
    exact h.1
  | Ψ :: l, k, h, j + 1, Φ, hj => by
    have := stW_at l (k + 1) h.2 j Φ (by simpa using hj)
    rwa [show k + 1 + j = k + (j + 1) by omega] at this
theorem stW_last {ops : Array Oper} {T : Nat → World → World → Prop} {Φs : List ((Nat → Value) → World → Prop)} (h : StW ops T 0 Φs) : ∀ i j (Φ : (Nat → Value) → World → Prop), i ≠ j → i < Φs.length → FreeOf ops i j → Φs[j]? = some Φ → ∀ u v w w', Φ u w → T i w w' → Φ (upd u i v) w' := by
  intro i j Φ hij _ hfr hj u v W W' hΦ ht
  have := stW_at _ 0 h j Φ hj
  rw [Nat.zero_add] at this
  exact this i hij hfr u v W W' hΦ ht
theorem stableW_is {ops : Array Oper} {T : Nat → World → World → Prop} {j : Nat} (c : Value) : StableW ops T j (Own1 j (Is c)) := fun _ hij _ _ _ _ _ h _ => own1_keep hij h fun _ h => h
theorem stableW_blk {ops : Array Oper} {g s : Nat} {t : TypeId} {cs : Array Value} : StableW ops (TW g s) s (Own1 s (fun _ w => Blk w g t cs)) := fun _ hij _ _ _ _ _ h ht => h.below (ht.2 hij) h.lt
/-- What the region reads. -/
structure Cab4 (base : Nat) (t : Tp) (m : TpM) (x : Tr) (xn : TrM) (now n : Int) (gt gc gp gn ga : Nat) (W : World) : Prop where
  tp : TpIs W t m
  tr : TrOwn W base x xn
  b0 : Blk W gt 27 m.cells
  b1 : Blk W gc 69 (cabC m x xn now)
  b2 : Blk W gp 66 #[.pointer (some ⟨gc, 0, none⟩)]
  b3 : Blk W gn 3 #[.int .i64 now]
  b4 : Blk W ga 49 #[.int .i64 4, .int .i64 n, .slice none 0 0]
theorem Cab4.below {base : Nat} {t : Tp} {m : TpM} {x : Tr} {xn : TrM} {now n : Int} {gt gc gp gn ga : Nat} {W W' : World} (h : Cab4 base t m x xn now n gt gc gp gn ga W) (hb : Below W.heap.size W W') : Cab4 base t m x xn now n gt gc gp gn ga W' :=
  ⟨h.tp.below hb, h.tr.below hb, h.b0.below hb h.b0.lt, h.b1.below hb h.b1.lt, h.b2.below hb h.b2.lt, h.b3.below hb h.b3.lt, h.b4.below hb h.b4.lt⟩
set_option maxRecDepth 8000 in
set_option maxHeartbeats 8000000 in
theorem step4_k {w : World} {base : Nat} {t : Tp} {m : TpM} {x : Tr} {xn : TrM} {gt gc gp gn : Nat} {n now : Int} (hT : TpIs w t m) (hX : TrOwn w base x xn) (b0 : Blk w gt 27 m.cells) (b1 : Blk w gc 69 (cabC m x xn now)) (b2 : Blk w gp 66 #[.pointer (some ⟨gc, 0, none⟩)]) (b3 : Blk w gn 3 #[.int .i64 now]) (hnow : clockP now = true) :
    Calls Tryz.prog 22 #[.agg #[.int .i64 4, .int .i64 n, .slice none 0 0], .pointer (some ⟨gt, 0, none⟩), .pointer (some ⟨gp, 0, none⟩), .pointer (some ⟨gn, 0, none⟩)] w fun e w' => e = .returned (.int .i64 (movedE t x n now)) ∧ Blk w' gc 69 (cabC m (movedR t x n now) xn now) ∧ w.grownBy w' (some gc) := by
  have hb0 : Below w.heap.size w (w.alloc (.cells #[.int .i64 4, .int .i64 n, .slice none 0 0] 49)) := (Below.refl _ _).alloc (Nat.le_refl _) _
  have hC : Cab4 base t m x xn now n gt gc gp gn w.heap.size (w.alloc (.cells #[.int .i64 4, .int .i64 n, .slice none 0 0] 49)) := ⟨hT.below hb0, hX.below hb0, b0.below hb0 b0.lt, b1.below hb0 b1.lt, b2.below hb0 b2.lt, b3.below hb0 b3.lt, Blk.new _ _ _⟩
  have hmv := fun W (hC : Cab4 base t m x xn now n gt gc gp gn w.heap.size W) => moved_m hC.tp x xn hC.tr.is n now hnow
  generalize movedE t x n now = me at *
  generalize movedR t x n now = mr at *
  clear hT hX b0 b1 b2 b3 hnow
  go_enter Tryz.func22, Tryz.ntmps22
  go_wp2_with fail
  generalize hge : (w.alloc (.cells #[.int .i64 4, .int .i64 n, .slice none 0 0] 49)) = W0 at *
  clear hge
  apply wp_region_lextv (fun W W' => W.grownBy W' (some gc)) (fun W => below_grownBy (below_drewN (Below.refl _ _) 1) _) (fun _ _ _ h1 h2 => grownBy_trans h1 h2) (TW gc 15) (fun _ _ _ h => h.1) (fun _ _ => tw_same _ _ _ _) (fun i W => i ≤ 11 ∨ i = 15 → Cab4 base t m x xn now n gt gc gp gn w.heap.size W) (fun i _ => hC.below (below_drewN (Below.refl _ _) 1))
  case hFl =>
    intro u
    simp only [List.map, fill, Act.put, List.setIfInBounds_toArray, List.set_cons_zero, List.set_cons_succ, Nat.reduceAdd, Nat.zero_add]
    with_reducible rfl
  case hm => kernel_rfl
  case hB => kernel_rfl
  case hA => kernel_rfl
  case hap => kernel_rfl
  case hPst =>
    intro i j W W' hij hf hP hT hi
    by_cases hj : j = 15
    · subst hj
      rcases hi with hi | rfl
      · exact absurd hf (waitsB_spec (List.all_eq_true.1 (show (List.range 12).all (fun i => waitsB _ i 15) = true by kernel_rfl) i (by simp; omega)))
      · exact absurd rfl hij
    · exact (hP hi).below (hT.2 hj)
  apply LexTU.is
  · (intro u w' hk hpre hd
     simp [WaitedU, Region.binds, Own1, Is] at hd
     refine lookedT_want ?_ ?_
     · first
       | rfl
       | (simp [Region.wanted, yielded, hd]; done)
     intro K hK
     have p := hpre (.inl (by decide)); have hc2 := p.b2.cell
     go_wp2_with (fail)
     try simp only [hd] at hK
     refine hK _ _ ?_ rfl
     first | exact tw_same _ _ _ _ | exact tw_below hb3)
  refine LexTU.is (c := .agg m.cells) ?_ ?_
  · intro u w' hk hpre hd
    have p := hpre (.inl (by decide))
    refine lookedT_want (by first | rfl | simp [Region.wanted, yielded]) ?_
    intro K hK
    exact wp_load_row 27 _ rfl gt rfl 27 _ (0, 0) _ p.b0 Tryz.underlying27 rfl (by kernel_rfl) (hK _ _ (tw_same _ _ _ _) rfl)
  apply LexTU.is
  · (intro u w' hk hpre hd
     simp [WaitedU, Region.binds, Own1, Is] at hd
     refine lookedT_want ?_ ?_
     · first
       | rfl
       | (simp [Region.wanted, yielded, hd]; done)
     intro K hK
     have p := hpre (.inl (by decide)); have hc2 := p.b2.cell
     go_wp2_with (fail)
     try simp only [hd] at hK
     refine hK _ _ ?_ rfl
     first | exact tw_same _ _ _ _ | exact tw_below hb3)
  apply LexTU.is
  · (intro u w' hk hpre hd
     simp [WaitedU, Region.binds, Own1, Is] at hd
     refine lookedT_want ?_ ?_
     · first
       | rfl
       | (simp [Region.wanted, yielded, hd]; done)
     intro K hK
     clear hpre
     go_wp2_with (fail)
     try simp only [hd] at hK
     refine hK _ _ ?_ rfl
     first | exact tw_same _ _ _ _ | exact tw_below hb3)
  apply LexTU.is
  · (intro u w' hk hpre hd
     simp [WaitedU, Region.binds, Own1, Is] at hd
     refine lookedT_want ?_ ?_
     · first
       | rfl
       | (simp [Region.wanted, yielded, hd]; done)
     intro K hK
     clear hpre
     go_wp2_with (fail)
     try simp only [hd] at hK
     refine hK _ _ ?_ rfl
     first | exact tw_same _ _ _ _ | exact tw_below hb3)
  refine LexTU.is (c := .agg (trC x xn)) ?_ ?_
  · intro u w' hk hpre hd
    simp [WaitedU, Region.binds, Own1, Is] at hd
    have p := hpre (.inl (by decide))
    refine lookedT_want (by first | rfl | simp [Region.wanted, yielded]) ?_
    intro K hK
    exact wp_load_mid 44 _ rfl gc 4 (by rw [← hd]; rfl) (trC x xn).toList _ (cab_tr p.b1) Tryz.underlying44 rfl (trC_info x xn) (hK _ _ (tw_same _ _ _ _) rfl)
  apply LexTU.is
  · (intro u w' hk hpre hd
     simp [WaitedU, Region.binds, Own1, Is] at hd
     refine lookedT_want ?_ ?_
     · first
       | rfl
       | (simp [Region.wanted, yielded, hd]; done)
     intro K hK
     clear hpre
     go_wp2_with (fail)
     try simp only [hd] at hK
     refine hK _ _ ?_ rfl
     first | exact tw_same _ _ _ _ | exact tw_below hb3)
  apply LexTU.is
  · (intro u w' hk hpre hd
     simp [WaitedU, Region.binds, Own1, Is] at hd
     refine lookedT_want ?_ ?_
     · first
       | rfl
       | (simp [Region.wanted, yielded, hd]; done)
     intro K hK
     have p := hpre (.inl (by decide)); have hc4 := p.b4.cell
     go_wp2_with (fail)
     try simp only [hd] at hK
     refine hK _ _ ?_ rfl
     first | exact tw_same _ _ _ _ | exact tw_below hb3)
  apply LexTU.is
  · (intro u w' hk hpre hd
     simp [WaitedU, Region.binds, Own1, Is] at hd
     refine lookedT_want ?_ ?_
     · first
       | rfl
       | (simp [Region.wanted, yielded, hd]; done)
     intro K hK
     have p := hpre (.inl (by decide)); have hc3 := p.b3.cell
     go_wp2_with (fail)
     try simp only [hd] at hK
     refine hK _ _ ?_ rfl
     first | exact tw_same _ _ _ _ | exact tw_below hb3)
  apply LexTU.is
  · (intro u w' hk hpre hd
     simp [WaitedU, Region.binds, Own1, Is] at hd
     refine lookedT_want ?_ ?_
     · first
       | rfl
       | (simp [Region.wanted, yielded, hd]; done)
     intro K hK
     have p := hpre (.inl (by decide))
     go_wp2_with ((first | (go_at_call 23; (with_reducible refine (hmv _ p).mono ?_); rintro e w3 ⟨rfl, hb3⟩)))
     try simp only [hd] at hK
     refine hK _ _ ?_ rfl
     first | exact tw_same _ _ _ _ | exact tw_below hb3)
  apply LexTU.is
  · (intro u w' hk hpre hd
     simp [WaitedU, Region.binds, Own1, Is] at hd
     refine lookedT_want ?_ ?_
     · first
       | rfl
       | (simp [Region.wanted, yielded, hd]; done)
     intro K hK
     clear hpre
     go_wp2_with (fail)
     try simp only [hd] at hK
     refine hK _ _ ?_ rfl
     first | exact tw_same _ _ _ _ | exact tw_below hb3)
  apply LexTU.is
  · (intro u w' hk hpre hd
     simp [WaitedU, Region.binds, Own1, Is] at hd
     refine lookedT_want ?_ ?_
     · first
       | rfl
       | (simp [Region.wanted, yielded, hd]; done)
     intro K hK
     clear hpre
     go_wp2_with (fail)
     try simp only [hd] at hK
     refine hK _ _ ?_ rfl
     first | exact tw_same _ _ _ _ | exact tw_below hb3)
  apply LexTU.is
  · (intro u w' hk hpre hd
     simp [WaitedU, Region.binds, Own1, Is] at hd
     refine lookedT_want ?_ ?_
     · first
       | rfl
       | (simp [Region.wanted, yielded, hd]; done)
     intro K hK
     clear hpre
     go_wp2_with (fail)
     try simp only [hd] at hK
     refine hK _ _ ?_ rfl
     first | exact tw_same _ _ _ _ | exact tw_below hb3)
  apply LexTU.is
  · (intro u w' hk hpre hd
     simp [WaitedU, Region.binds, Own1, Is] at hd
     refine lookedT_want ?_ ?_
     · first
       | rfl
       | (simp [Region.wanted, yielded, hd]; done)
     intro K hK
     clear hpre
     go_wp2_with (fail)
     try simp only [hd] at hK
     refine hK _ _ ?_ rfl
     first | exact tw_same _ _ _ _ | exact tw_below hb3)
  apply LexTU.is
  · (intro u w' hk hpre hd
     simp [WaitedU, Region.binds, Own1, Is] at hd
     refine lookedT_want ?_ ?_
     · first
       | rfl
       | (simp [Region.wanted, yielded, hd]; done)
     intro K hK
     clear hpre
     go_wp2_with (fail)
     try simp only [hd] at hK
     refine hK _ _ ?_ rfl
     first | exact tw_same _ _ _ _ | exact tw_below hb3)
  refine LexTU.one (fun _ w => Blk w gc 69 (cabC m mr xn now)) ?_ ?_
  · intro u w' hk hpre hd
    simp [WaitedU, Region.binds, Own1, Is] at hd
    have p := hpre (.inr rfl)
    refine lookedT_want (by first | rfl | simp [Region.wanted, yielded]) ?_
    intro K hK
    obtain ⟨h14, h11, _⟩ := hd
    obtain ⟨s1, s2, s3, s4, s5⟩ := setCells_heap gc (trC mr xn).toList 4 w'
    refine wp_store_mid 44 _ _ rfl gc 4 (trC mr xn) (by rw [← h14]; rfl) (by rw [← h11]; rfl) ?_ (trC_info mr xn) (trC_ones mr xn) (hK _ _ ⟨⟨s3, s4, s5, Nat.le_of_eq s1.symm, fun k _ hne => s2 k (fun e => hne (by rw [e]))⟩, fun h => absurd rfl h⟩ ?_)
    · intro j hj
      rw [trC_size] at hj
      rw [p.b1.cell, p.b1.frozen]
      exact ⟨by rw [Array.getElem?_eq_getElem (by rw [cabC_size]; omega)]; rfl, rfl⟩
    · have := Blk.cells_ (trC mr xn).toList 4 _ w' p.b1
      rwa [putAt_cab] at this
  refine LexTU.last (stW_last ?_) ?_
  · simp only [List.nil_append, List.cons_append]
    repeat (refine ⟨?_, ?_⟩; · first | exact stableW_is _ | exact stableW_blk)
    exact trivial
  intro u w1 hk hpre hd
  simp only [List.nil_append, List.cons_append] at hd
  refine ⟨by first | rfl | simp [Region.wanted, yielded], ?_⟩
  intro K hK
  have h12 := hd 12 _ rfl
  have h15 := hd 15 _ rfl
  simp only [Own1, Is] at h12 h15
  clear hd
  simp only [h12]
  clear h12
  go_wp2_with fail
  go_ret
  exact ⟨rfl, h15, grownBy_trans (below_grownBy hb0 _) hk⟩
end Go.Proofs.YtpjdcpicfkdioaaGreatDoor
