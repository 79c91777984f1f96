/- The document's Sort of readings. -/
import Derived.Test.YtoneofdihknnoabOdoRow
set_option linter.unusedSimpArgs false
set_option linter.unusedVariables false
namespace Go.Proofs.Ytoneofdihknnoab
open Go.RowKit Go.Shelf Go.Sort Ieee

def Asc (zs : List UInt64) : Prop := zs.Pairwise fun x y => placeV x.toNat ≤ placeV y.toNat
theorem asc_at {zs : List UInt64} (h : Asc zs) {i j : Nat} (hij : i ≤ j) (hj : j < zs.length) : placeV zs[i]!.toNat ≤ placeV zs[j]!.toNat := by
  rcases Nat.eq_or_lt_of_le hij with rfl | hlt
  · exact Int.le_refl _
  · rw [getElem!_pos zs i (by omega), getElem!_pos zs j hj]
    exact List.pairwise_iff_getElem.1 h i j (by omega) hj hlt
theorem asc_put {zs : List UInt64} {x : UInt64} {a : Nat} (h : Asc zs) (ha : a ≤ zs.length) (h1 : a = 0 ∨ placeV zs[a - 1]!.toNat ≤ placeV x.toNat) (h2 : ∀ j, a ≤ j → j < zs.length → placeV x.toNat < placeV zs[j]!.toNat) : Asc ((zs.take a ++ [x]) ++ zs.drop a) := by
  have hlow : ∀ y ∈ zs.take a, placeV y.toNat ≤ placeV x.toNat := by
    intro y hy
    obtain ⟨i, hi, rfl⟩ := List.mem_iff_getElem.1 hy
    have hil : i < a := by simp at hi; omega
    rcases h1 with h1 | h1
    · omega
    · have := asc_at h (i := i) (j := a - 1) (by omega) (by omega)
      rw [getElem!_pos zs i (by omega)] at this
      simp only [List.getElem_take]
      omega
  have hhigh : ∀ y ∈ zs.drop a, placeV x.toNat ≤ placeV y.toNat := by
    intro y hy
    obtain ⟨i, hi, rfl⟩ := List.mem_iff_getElem.1 hy
    simp at hi
    have := h2 (a + i) (by omega) (by omega)
    rw [getElem!_pos zs (a + i) (by omega)] at this
    simp only [List.getElem_drop]
    omega
  have hsplit : Asc (zs.take a ++ zs.drop a) := by rw [List.take_append_drop]; exact h
  obtain ⟨q1, q2, q3⟩ := List.pairwise_append.1 hsplit
  refine List.pairwise_append.2 ⟨List.pairwise_append.2 ⟨q1, List.pairwise_singleton _ _, fun y hy z hz => ?_⟩, q2, fun y hy z hz => ?_⟩
  · simp at hz; subst hz; exact hlow y hy
  · rcases List.mem_append.1 hy with hy | hy
    · exact q3 y hy z hz
    · simp at hy; subst hy; exact hhigh z hz
theorem perm_put (zs : List UInt64) (x : UInt64) (a : Nat) : ((zs.take a ++ [x]) ++ zs.drop a).Perm (zs ++ [x]) := by
  have h1 : ((zs.take a ++ [x]) ++ zs.drop a).Perm (zs.take a ++ (zs.drop a ++ [x])) := by
    rw [List.append_assoc]
    exact List.Perm.append_left _ List.perm_append_comm
  rw [← List.append_assoc, List.take_append_drop] at h1
  exact h1
/-- How an operation of the region may turn the world. -/
def WaysF (B : Nat) (pre : List UInt64) (i : Nat) (w w' : World) : Prop := Below B w w' ∧ (i ≠ 9 → Below w.heap.size w w') ∧ (i = 9 → (∀ A c, OwnF w B A c pre → (pre = [] → A = none) → OwnF w' B A c pre) ∧ ∀ bv y, B ≤ bv → Blk w bv 26 #[y] → Blk w' bv 26 #[y])
theorem waysF_same (B : Nat) (pre : List UInt64) (i : Nat) (w : World) : WaysF B pre i w w := ⟨Below.refl _ _, fun _ => Below.refl _ _, fun _ => ⟨fun _ _ h _ => h, fun _ _ _ h => h⟩⟩
theorem waysF_below {B : Nat} {pre : List UInt64} {i : Nat} {w w' : World} (hB : B ≤ w.heap.size) (h : Below w.heap.size w w') (hi : i ≠ 9) : WaysF B pre i w w' := ⟨h.mono hB, fun _ => h, fun e => absurd e hi⟩
def FNew (B a : Nat) (pre : List UInt64) : Value → World → Prop := fun v w => ∃ A c, v = .slice A a c ∧ OwnF w B A c pre ∧ (pre = [] → A = none)
def FOne (B : Nat) (x : UInt64) : Value → World → Prop := fun v w => ∃ bv, v = .slice (some ⟨bv, 0, none⟩) 1 1 ∧ B ≤ bv ∧ Blk w bv 26 #[encF x]
def FRes (B n : Nat) (xs : List UInt64) : Value → World → Prop := fun v w => ∃ A c, v = .slice A n c ∧ OwnF w B A c xs
theorem FNew.keep {B a i : Nat} {pre : List UInt64} {v : Value} {w w' : World} (h : FNew B a pre v w) (ht : WaysF B pre i w w') : FNew B a pre v w' := by
  obtain ⟨A, c, e, hO, hn⟩ := h
  by_cases hi : i = 9
  · exact ⟨A, c, e, (ht.2.2 hi).1 A c hO hn, hn⟩
  · exact ⟨A, c, e, hO.below (ht.2.1 hi), hn⟩
theorem FOne.keep {B i : Nat} {pre : List UInt64} {x : UInt64} {v : Value} {w w' : World} (h : FOne B x v w) (ht : WaysF B pre i w w') : FOne B x v w' := by
  obtain ⟨bv, e, hbv, hB⟩ := h
  by_cases hi : i = 9
  · exact ⟨bv, e, hbv, (ht.2.2 hi).2 bv _ hbv hB⟩
  · exact ⟨bv, e, hbv, hB.below (ht.2.1 hi) hB.lt⟩
theorem FRes.keep {B n i : Nat} {pre xs : List UInt64} {v : Value} {w w' : World} (h : FRes B n xs v w) (ht : WaysF B pre i w w') (hi : i ≠ 9) : FRes B n xs v w' := by
  obtain ⟨A, c, e, hO⟩ := h
  exact ⟨A, c, e, hO.below (ht.2.1 hi)⟩
/-- The append of one behind the fresh row turns it as WaysF says. -/
theorem waysF_app {B : Nat} {pre : List UInt64} {w W : World} {A1 : Option Addr} {c1 a : Nat} (hB : B ≤ w.heap.size) (hO1 : OwnF w B A1 c1 pre) (hn1 : pre = [] → A1 = none) (ha : pre.length = a) (hg : w.grownBy W (rowF A1)) (hk1 : OwnF W B A1 c1 pre) (hk2 : ∀ g, A1 = some ⟨g, 0, none⟩ → c1 < a + 1 → ∀ k, k < w.heap.size → W.heap[k]? = w.heap[k]?) : WaysF B pre 9 w W := by
  refine ⟨(Below.refl B w).grown hg hB (fun k hk => (hO1.row_ge k hk).1), fun h => absurd rfl h, fun _ => ⟨fun A c hO hn => ?_, fun bv y hbv hb => ?_⟩⟩
  · by_cases hA : A = none
    · subst hA
      have h0 : pre = [] := by
        cases pre with
        | nil => rfl
        | cons y ys => exact absurd rfl (hO.some_ (by simp))
      subst h0
      have := hO.cap.2.2 rfl
      subst this
      exact OwnF.nil W B
    · obtain ⟨g, cur, rfl, h1, h2, h3, _⟩ := hO.blk hA
      by_cases hr : rowF A1 = some g
      · have hA1 : A1 ≠ none := by rintro rfl; cases hr
        obtain ⟨g1, cur1, rfl, _, h5, h6, _⟩ := hO1.blk hA1
        simp [rowF] at hr
        subst hr
        have : cur = cur1 := by
          unfold Blk at h2 h5
          rw [h2] at h5
          simp at h5
          exact h5
        subst this
        have : c = c1 := by omega
        subst this
        exact hk1
      · exact hO.off hg (fun g' hg' e => by simp [rowF] at hg'; subst hg'; exact hr e)
  · by_cases hr : rowF A1 = some bv
    · have hA1 : A1 ≠ none := by rintro rfl; cases hr
      obtain ⟨g1, cur1, rfl, _, h5, h6, _⟩ := hO1.blk hA1
      simp [rowF] at hr
      subst hr
      have hcur : cur1 = #[y] := by
        unfold Blk at hb h5
        rw [h5] at hb
        simpa using hb
      have hc1 : c1 = 1 := by rw [← h6, hcur]; rfl
      have h0 : 0 < pre.length := by
        cases pre with
        | nil => exact absurd (hn1 rfl) hA1
        | cons y ys => simp
      exact (hk2 g1 rfl (by omega) g1 h5.lt).trans hb
    · exact hb.grown hg (fun e => hr e.symm)
theorem one_row {w : World} {bv : Nat} {x : UInt64} (h : Blk w bv 26 #[encF x]) : RowF w (some ⟨bv, 0, none⟩) [x] := fun _ => ⟨bv, 0, rfl, h.lt, fun j hj => by
  have : j = 0 := by simp at hj; omega
  subst this
  rw [Nat.zero_add, h.cell]
  rfl⟩
set_option maxHeartbeats 16000000 in
set_option maxRecDepth 100000 in
theorem rsort_main (b off c n : Nat) (ys : List UInt64) (w : World) (hn : ys.length = n) (hn200 : n ≤ 200) (hbw : b < w.heap.size) (hc : ∀ j, j < n → w.cell? ⟨b, off + j, none⟩ = some (encF ys[j]!)) :
    Calls Try.prog 7 #[.slice (some ⟨b, off, none⟩) n c] w fun e w' => ∃ A2 c2 zs, e = .returned (.slice A2 n c2) ∧ zs.length = n ∧ zs.Perm ys ∧ Asc zs ∧ OwnF w' w.heap.size A2 c2 zs ∧ Below w.heap.size w w' := by
  have HN := Lib.hid hn
  have HC := Lib.hid hc
  clear hn hc
  have hless : ∀ (x y : UInt64) W, Calls Try.prog 19 #[encF x, encF y] W fun e w' => e = .returned (.bool (decide (placeV x.toNat < placeV y.toNat))) ∧ Below W.heap.size W w' := fun x y W => rodless_k x.toNat y.toNat W
  have hcl0 := encF_one.cells
  simp only [Value.cells] at hcl0
  have hst := encF_one.store Try.prog
  go_enter Try.func7, Try.ntmps7
  go_wp2_with fail
  go_loopw [4, 3] (fun i v wr => ∃ (k : Nat) (A2 : Option Addr) (c2 : Nat) (zs : List UInt64), k ≤ n ∧ i = .int .i64 k ∧ v = .slice A2 k c2 ∧ zs.length = k ∧ zs.Perm (ys.take k) ∧ Asc zs ∧ OwnF wr w.heap.size A2 c2 zs ∧ Below w.heap.size w wr) (fun i _ _ => n - (intOf i).toNat)
  case atStart => exact ⟨0, none, 0, [], Nat.zero_le _, rfl, rfl, rfl, by simp, List.Pairwise.nil, OwnF.nil _ _, Below.refl _ _⟩
  case round =>
    obtain ⟨k, A2, c2, zs, hk, rfl, rfl, hzl, hp, has, hO, hb⟩ := hrel
    have HZL := Lib.hid hzl
    have HP := Lib.hid hp
    have HA := Lib.hid has
    clear hzl hp has
    by_cases hlt : k < n
    · have HTK := Lib.hid (show ys.take (k + 1) = ys.take k ++ [ys[k]!] by rw [List.take_succ_eq_append_getElem (by have := HN.out; omega), getElem!_pos ys k (by have := HN.out; omega)])
      have HCX := Lib.hid (HC.out k hlt)
      obtain ⟨x, hx⟩ : ∃ x, x = ys[k]! := ⟨_, rfl⟩
      rw [← hx] at HTK HCX
      clear hx
      go_wp2_with fail
      go_loopw [5] (fun va wr => ∃ a : Nat, a ≤ k ∧ va = .int .i64 a ∧ (∀ j, a ≤ j → j < k → placeV x.toNat < placeV zs[j]!.toNat) ∧ OwnF wr w.heap.size A2 c2 zs ∧ Below w.heap.size w wr) (fun va _ => (intOf va).toNat)
      case atStart => exact ⟨k, Nat.le_refl _, rfl, fun j h1 h2 => by omega, hO, hb⟩
      case round =>
        clear hO hb
        obtain ⟨a, hak, rfl, hgt, hO, hb⟩ := hrel
        have HGT := Lib.hid hgt
        clear hgt
        by_cases ha0 : a = 0
        · have hstop : a = 0 ∨ placeV zs[a - 1]!.toNat ≤ placeV x.toNat := .inl ha0
          have hd0 : decide ((0 : Int) < (a : Int)) = false := decide_eq_false (by omega)
          have hd1 : decide (0 < a) = false := decide_eq_false (by omega)
          clear hless ha0
          have hpl : (zs.take a).length = a := by rw [List.length_take, HZL.out]; omega
          have hdl : (zs.drop a).length = k - a := by rw [List.length_drop, HZL.out]
          have hrr := hO.cut a (k - a) (by rw [HZL.out]; omega)
          rw [List.take_of_length_le (by omega)] at hrr
          have hr2 := hO.cut 0 a (by rw [HZL.out]; omega)
          rw [cutF_zero, List.drop_zero] at hr2
          have hcc := hO.cap.1
          rw [HZL.out] at hcc
          obtain ⟨R, hR⟩ : ∃ R, R = cutF A2 a c2 := ⟨_, rfl⟩
          obtain ⟨m, hm⟩ : ∃ m, m = k - a := ⟨_, rfl⟩
          obtain ⟨cc, hcce⟩ : ∃ cc, cc = c2 - a := ⟨_, rfl⟩
          have hs1 : ∀ W, (Instr.slice 22 (.slice A2 k c2) (some (.int .i64 a)) none none).run Try.prog W = .ok (.slice R m cc) W := fun W => by
            rw [slice_floats_l W A2 k c2 .i64 a (by omega) (by omega), hR, hm, hcce]
            rfl
          have hs2 : ∀ W, (Instr.slice 22 (.slice A2 k c2) none (some (.int .i64 a)) none).run Try.prog W = .ok (.slice A2 a c2) W := fun W => by
            rw [slice_floats_h W A2 k c2 .i64 a (by omega) (by omega)]
            rfl
          rw [← hR] at hrr
          rw [← hm] at hdl
          have HM := Lib.hid hm
          have HPL := Lib.hid hpl
          have HDL := Lib.hid hdl
          have HCUT := Lib.hid hstop
          clear hR hcce hm hpl hdl hstop
          generalize hwp : zs.take a = pre at *
          generalize hws : zs.drop a = suf at *
          have HWP := Lib.hid hwp
          have HWS := Lib.hid hws
          clear hwp hws
          have hsz0 := hb.size
          go_wp2_with (at_builtin; refine wpList_app_f rfl _ _ rfl wr.heap.size none 0 [] 0 rfl rfl (OwnF.nil _ _) R cc suf m rfl HDL.out hrr (by have := HDL.out; have := HM.out; omega) (Nat.le_refl _) ?_; intro A3 c3 W3 hO3 hg3 h3; have hb3 : Below wr.heap.size wr W3 := (Below.refl _ _).grown hg3 (Nat.le_refl _) (fun k hk => by cases hk); replace hO := hO.below hb3; replace hr2 := hr2.below hb3; simp only [List.nil_append, Nat.zero_add] at hO3)
          have hsz3 := hb3.size
          have hcx3 : W3.cell? ⟨b, off + k, none⟩ = some (encF x) := ((hb.trans (hb3.mono hsz0)).cell (p := ⟨b, off + k, none⟩) hbw).trans HCX.out
          have hbW3 : b < W3.heap.size := by omega
          apply wp_region_lextf (Below W3.heap.size) (fun W => below_drewN (Below.refl _ _) 1) (fun _ _ _ h1 h2 => h1.trans h2) (WaysF W3.heap.size pre) (fun _ _ _ h => h.1) (fun _ _ => True) (fun _ => trivial) (fun _ _ _ _ _ _ _ => trivial)
          case hFl =>
            intro u
            simp only [List.map, List.dropLast, fill, Act.put, List.setIfInBounds_toArray, List.set_cons_zero, List.set_cons_succ, Nat.reduceAdd, Nat.zero_add]
            rfl
          case hm => kernel_rfl
          case hB => kernel_rfl
          case hA => kernel_rfl
          case hap => kernel_rfl
          iterate 3 (
            apply LexTL.is
            · (intro u w' hk hpre hd
               simp [Waited, Region.binds, Is] at hd
               refine lookedT_want (by first | rfl | simp [Region.wanted, yielded, hd]) ?_
               intro K hK
               skip
               go_wp2_with fail
               try simp only [hd] at hK
               refine hK _ _ ?_ rfl
               exact waysF_same _ _ _ _)
            )
          refine LexTL.word (FNew W3.heap.size a pre) ?_ ?_
          · (intro u w' hk hpre hd
             simp [Waited, Region.binds, Is] at hd
             refine lookedT_want (by first | rfl | simp [Region.wanted, yielded]) ?_
             intro K hK
             exact wp_app_f (.const (.slice none 0 0)) (.tmp 38) rfl W3.heap.size none 0 [] 0 rfl rfl (OwnF.nil _ _) A2 c2 pre a (by rw [← hd]; rfl) HPL.out (hr2.below hk) (by omega) hk.size fun A4 c4 W4 h1 hg h2 _ _ hnil => hK _ _ (waysF_below hk.size ((Below.refl _ _).grown hg (Nat.le_refl _) (fun k hk => by cases hk)) (by decide)) ⟨A4, c4, by rw [Nat.zero_add], h1, fun e => hnil (by have := HPL.out; rw [e] at this; simp at this; omega) rfl⟩)
          iterate 3 (
            apply LexTL.is
            · (intro u w' hk hpre hd
               simp [Waited, Region.binds, Is] at hd
               refine lookedT_want (by first | rfl | simp [Region.wanted, yielded, hd]) ?_
               intro K hK
               skip
               go_wp2_with fail
               try simp only [hd] at hK
               refine hK _ _ ?_ rfl
               exact waysF_same _ _ _ _)
            )
          apply LexTL.is
          · (intro u w' hk hpre hd
             simp [Waited, Region.binds, Is] at hd
             refine lookedT_want (by first | rfl | simp [Region.wanted, yielded, hd]) ?_
             intro K hK
             have hcx4 := (hk.cell (p := ⟨b, off + k, none⟩) hbW3).trans hcx3
             go_wp2_with fail
             try simp only [hd] at hK
             refine hK _ _ ?_ rfl
             exact waysF_same _ _ _ _)
          refine LexTL.word (FOne W3.heap.size x) ?_ ?_
          · (intro u w' hk hpre hd
             simp [Waited, Region.binds, Is] at hd
             refine lookedT_want (by first | rfl | simp [Region.wanted, yielded]) ?_
             intro K hK
             go_wp2_with fail
             try simp only [hd] at hK
             exact hK _ _ (waysF_below hk.size ((Below.refl _ _).alloc (Nat.le_refl _) _) (by decide)) ⟨w'.heap.size, rfl, hk.size, Blk.new _ _ _⟩)
          refine LexTL.word (FRes W3.heap.size (a + 1) (pre ++ [x])) ?_ ?_
          · (intro u w' hk hpre hd
             simp [Waited, Region.binds, Is] at hd
             obtain ⟨h3, h8⟩ := hd
             obtain ⟨A1, c1, e1, hO1, hn1⟩ := h3
             obtain ⟨bv, e2, hbv, hB8⟩ : FOne W3.heap.size x (u 8) w' := by first | exact h8 | exact h8.1 | exact h8.2
             refine lookedT_want (by first | rfl | simp [Region.wanted, yielded]) ?_
             intro K hK
             exact wp_app_f (.tmp 39) (.tmp 44) rfl W3.heap.size A1 c1 pre a (by rw [← e1]; rfl) HPL.out hO1 (some ⟨bv, 0, none⟩) 1 [x] 1 (by rw [← e2]; rfl) rfl (one_row hB8) (by omega) hk.size fun A4 c4 W4 h1 hg h2 hk1 hk2 _ => hK _ _ (waysF_app hk.size hO1 hn1 HPL.out hg hk1 hk2) ⟨A4, c4, rfl, h1⟩)
          refine LexTL.last ?_ ?_
          · intro i' j Φ hij _ hj v W W' hΦ ht
            rcases j with _ | _ | _ | _ | _ | _ | _ | _ | _ | _ | j
            all_goals simp only [List.nil_append, List.cons_append, List.getElem?_cons_zero, List.getElem?_cons_succ, List.getElem?_nil, Option.some.injEq, reduceCtorEq] at hj
            all_goals subst hj
            · exact hΦ
            · exact hΦ
            · exact hΦ
            · exact FNew.keep hΦ ht
            · exact hΦ
            · exact hΦ
            · exact hΦ
            · exact hΦ
            · exact FOne.keep hΦ ht
            · exact FRes.keep hΦ ht hij
          intro u w5 hk5 _ hd
          simp only [List.nil_append, List.cons_append] at hd
          obtain ⟨A5, c5, hu9, hO5⟩ := hd 9 _ rfl
          clear hd
          refine ⟨rfl, ?_⟩
          intro K hK
          have hb5 : Below w.heap.size w w5 := (hb.trans (hb3.mono hsz0)).trans (hk5.mono (by omega))
          have hr3 : RowF w5 A3 suf := (hO3.rowF).below hk5
          simp only [hu9]
          clear hu9 hcx3
          go_wp2_with (at_builtin; refine wpList_app_f rfl _ _ rfl W3.heap.size A5 c5 (pre ++ [x]) (a + 1) rfl (by rw [List.length_append, HPL.out]; rfl) hO5 A3 c3 suf m rfl HDL.out hr3 (by have := HDL.out; have := HM.out; omega) hk5.size ?_; intro A6 c6 W6 hO6 hg6 h6)
          have hb6 : Below w.heap.size w W6 := hb5.grown hg6 hb5.size (fun k hk => by have := (hO5.row_ge k hk).1; omega)
          go_roundw
          case rel =>
            have hlen : ((pre ++ [x]) ++ suf).length = k + 1 := by rw [List.length_append, List.length_append, HPL.out, HDL.out, HM.out]; simp; omega
            refine ⟨k + 1, A6, c6, (pre ++ [x]) ++ suf, by omega, by go_num, by rw [show a + 1 + m = k + 1 by have := HM.out; omega], hlen, ?_, ?_, hO6.mono (by omega), hb6⟩
            · rw [HTK.out, ← HWP.out, ← HWS.out]
              exact (perm_put zs x a).trans (List.Perm.append_right _ HP.out)
            · rw [← HWP.out, ← HWS.out]
              exact asc_put HA.out (by rw [HZL.out]; exact hak) HCUT.out (fun j h1 h2 => HGT.out j h1 (by rw [HZL.out] at h2; exact h2))
          case measure => simp [intOf]; omega
        · obtain ⟨ap, hap⟩ : ∃ ap, ap = a - 1 := ⟨_, rfl⟩
          have eap : (a : Int) - 1 = (ap : Int) := by omega
          obtain ⟨g, hA2, hgB, hgl, hcg⟩ := hO.at_ (k := ap) (by rw [HZL.out]; omega)
          have hcx : wr.cell? ⟨b, off + k, none⟩ = some (encF x) := (hb.cell (p := ⟨b, off + k, none⟩) hbw).trans HCX.out
          have hbl : b < wr.heap.size := Nat.lt_of_lt_of_le hbw hb.size
          have hd0 : decide ((0 : Int) < (a : Int)) = true := decide_eq_true (by omega)
          have hd1 : decide (0 < a) = true := decide_eq_true (by omega)
          have hls := hless x zs[ap]!
          obtain ⟨bl, hbl2⟩ : ∃ bl, bl = decide (placeV x.toNat < placeV zs[ap]!.toNat) := ⟨_, rfl⟩
          rw [← hbl2] at hls
          have HBL := Lib.hid hbl2
          have HAP := Lib.hid hap
          have hapk : ap < k := by omega
          generalize hy : zs[ap]! = y at hls hcg
          clear hbl2 hap hy hless
          cases bl with
          | true =>
            subst hA2
            go_wp2_with fail
            refine wp_region_kin (by kernel_rfl) (by kernel_rfl) ?_
            repeat (go_big_quiet_step ((go_at_call 19; exact kin_call (hls _))))
            refine wpQuiet_nil ?_
            intro W hW
            replace hW := kin_out hW
            go_wp2
            go_roundw
            case rel => exact ⟨ap, by omega, by first | rfl | go_num | (congr 1; omega), fun j h1 h2 => by
              by_cases hj : j = ap
              · subst hj
                exact of_decide_eq_true HBL.out.symm
              · exact HGT.out j (by have := HAP.out; omega) h2, hO.below hW, hb.trans (hW.mono hb.size)⟩
            case measure => simp [intOf]; omega
          | false =>
            have hstop : a = 0 ∨ placeV zs[a - 1]!.toNat ≤ placeV x.toNat := .inr (by rw [← HAP.out]; have := of_decide_eq_false HBL.out.symm; omega)
            subst hA2
            go_wp2_with fail
            refine wp_region_kin (by kernel_rfl) (by kernel_rfl) ?_
            repeat (go_big_quiet_step ((go_at_call 19; exact kin_call (hls _))))
            refine wpQuiet_nil ?_
            intro W hW
            replace hW := kin_out hW
            replace hO := hO.below hW
            replace hb := hb.trans (hW.mono hb.size)
            clear hcx hcg hgl hbl hls
            obtain ⟨A2, hA2⟩ : ∃ A2 : Option Addr, A2 = some ⟨g, 0, none⟩ := ⟨_, rfl⟩
            rw [← hA2] at hO ⊢
            clear hA2 hW
            generalize W = wr at *
            have hpl : (zs.take a).length = a := by rw [List.length_take, HZL.out]; omega
            have hdl : (zs.drop a).length = k - a := by rw [List.length_drop, HZL.out]
            have hrr := hO.cut a (k - a) (by rw [HZL.out]; omega)
            rw [List.take_of_length_le (by omega)] at hrr
            have hr2 := hO.cut 0 a (by rw [HZL.out]; omega)
            rw [cutF_zero, List.drop_zero] at hr2
            have hcc := hO.cap.1
            rw [HZL.out] at hcc
            obtain ⟨R, hR⟩ : ∃ R, R = cutF A2 a c2 := ⟨_, rfl⟩
            obtain ⟨m, hm⟩ : ∃ m, m = k - a := ⟨_, rfl⟩
            obtain ⟨cc, hcce⟩ : ∃ cc, cc = c2 - a := ⟨_, rfl⟩
            have hs1 : ∀ W, (Instr.slice 22 (.slice A2 k c2) (some (.int .i64 a)) none none).run Try.prog W = .ok (.slice R m cc) W := fun W => by
              rw [slice_floats_l W A2 k c2 .i64 a (by omega) (by omega), hR, hm, hcce]
              rfl
            have hs2 : ∀ W, (Instr.slice 22 (.slice A2 k c2) none (some (.int .i64 a)) none).run Try.prog W = .ok (.slice A2 a c2) W := fun W => by
              rw [slice_floats_h W A2 k c2 .i64 a (by omega) (by omega)]
              rfl
            rw [← hR] at hrr
            rw [← hm] at hdl
            have HM := Lib.hid hm
            have HPL := Lib.hid hpl
            have HDL := Lib.hid hdl
            have HCUT := Lib.hid hstop
            clear hR hcce hm hpl hdl hstop
            generalize hwp : zs.take a = pre at *
            generalize hws : zs.drop a = suf at *
            have HWP := Lib.hid hwp
            have HWS := Lib.hid hws
            clear hwp hws
            have hsz0 := hb.size
            go_wp2_with (at_builtin; refine wpList_app_f rfl _ _ rfl wr.heap.size none 0 [] 0 rfl rfl (OwnF.nil _ _) R cc suf m rfl HDL.out hrr (by have := HDL.out; have := HM.out; omega) (Nat.le_refl _) ?_; intro A3 c3 W3 hO3 hg3 h3; have hb3 : Below wr.heap.size wr W3 := (Below.refl _ _).grown hg3 (Nat.le_refl _) (fun k hk => by cases hk); replace hO := hO.below hb3; replace hr2 := hr2.below hb3; simp only [List.nil_append, Nat.zero_add] at hO3)
            have hsz3 := hb3.size
            have hcx3 : W3.cell? ⟨b, off + k, none⟩ = some (encF x) := ((hb.trans (hb3.mono hsz0)).cell (p := ⟨b, off + k, none⟩) hbw).trans HCX.out
            have hbW3 : b < W3.heap.size := by omega
            apply wp_region_lextf (Below W3.heap.size) (fun W => below_drewN (Below.refl _ _) 1) (fun _ _ _ h1 h2 => h1.trans h2) (WaysF W3.heap.size pre) (fun _ _ _ h => h.1) (fun _ _ => True) (fun _ => trivial) (fun _ _ _ _ _ _ _ => trivial)
            case hFl =>
              intro u
              simp only [List.map, List.dropLast, fill, Act.put, List.setIfInBounds_toArray, List.set_cons_zero, List.set_cons_succ, Nat.reduceAdd, Nat.zero_add]
              rfl
            case hm => kernel_rfl
            case hB => kernel_rfl
            case hA => kernel_rfl
            case hap => kernel_rfl
            iterate 3 (
              apply LexTL.is
              · (intro u w' hk hpre hd
                 simp [Waited, Region.binds, Is] at hd
                 refine lookedT_want (by first | rfl | simp [Region.wanted, yielded, hd]) ?_
                 intro K hK
                 skip
                 go_wp2_with fail
                 try simp only [hd] at hK
                 refine hK _ _ ?_ rfl
                 exact waysF_same _ _ _ _)
              )
            refine LexTL.word (FNew W3.heap.size a pre) ?_ ?_
            · (intro u w' hk hpre hd
               simp [Waited, Region.binds, Is] at hd
               refine lookedT_want (by first | rfl | simp [Region.wanted, yielded]) ?_
               intro K hK
               exact wp_app_f (.const (.slice none 0 0)) (.tmp 38) rfl W3.heap.size none 0 [] 0 rfl rfl (OwnF.nil _ _) A2 c2 pre a (by rw [← hd]; rfl) HPL.out (hr2.below hk) (by omega) hk.size fun A4 c4 W4 h1 hg h2 _ _ hnil => hK _ _ (waysF_below hk.size ((Below.refl _ _).grown hg (Nat.le_refl _) (fun k hk => by cases hk)) (by decide)) ⟨A4, c4, by rw [Nat.zero_add], h1, fun e => hnil (by have := HPL.out; rw [e] at this; simp at this; omega) rfl⟩)
            iterate 3 (
              apply LexTL.is
              · (intro u w' hk hpre hd
                 simp [Waited, Region.binds, Is] at hd
                 refine lookedT_want (by first | rfl | simp [Region.wanted, yielded, hd]) ?_
                 intro K hK
                 skip
                 go_wp2_with fail
                 try simp only [hd] at hK
                 refine hK _ _ ?_ rfl
                 exact waysF_same _ _ _ _)
              )
            apply LexTL.is
            · (intro u w' hk hpre hd
               simp [Waited, Region.binds, Is] at hd
               refine lookedT_want (by first | rfl | simp [Region.wanted, yielded, hd]) ?_
               intro K hK
               have hcx4 := (hk.cell (p := ⟨b, off + k, none⟩) hbW3).trans hcx3
               go_wp2_with fail
               try simp only [hd] at hK
               refine hK _ _ ?_ rfl
               exact waysF_same _ _ _ _)
            refine LexTL.word (FOne W3.heap.size x) ?_ ?_
            · (intro u w' hk hpre hd
               simp [Waited, Region.binds, Is] at hd
               refine lookedT_want (by first | rfl | simp [Region.wanted, yielded]) ?_
               intro K hK
               go_wp2_with fail
               try simp only [hd] at hK
               exact hK _ _ (waysF_below hk.size ((Below.refl _ _).alloc (Nat.le_refl _) _) (by decide)) ⟨w'.heap.size, rfl, hk.size, Blk.new _ _ _⟩)
            refine LexTL.word (FRes W3.heap.size (a + 1) (pre ++ [x])) ?_ ?_
            · (intro u w' hk hpre hd
               simp [Waited, Region.binds, Is] at hd
               obtain ⟨h3, h8⟩ := hd
               obtain ⟨A1, c1, e1, hO1, hn1⟩ := h3
               obtain ⟨bv, e2, hbv, hB8⟩ : FOne W3.heap.size x (u 8) w' := by first | exact h8 | exact h8.1 | exact h8.2
               refine lookedT_want (by first | rfl | simp [Region.wanted, yielded]) ?_
               intro K hK
               exact wp_app_f (.tmp 39) (.tmp 44) rfl W3.heap.size A1 c1 pre a (by rw [← e1]; rfl) HPL.out hO1 (some ⟨bv, 0, none⟩) 1 [x] 1 (by rw [← e2]; rfl) rfl (one_row hB8) (by omega) hk.size fun A4 c4 W4 h1 hg h2 hk1 hk2 _ => hK _ _ (waysF_app hk.size hO1 hn1 HPL.out hg hk1 hk2) ⟨A4, c4, rfl, h1⟩)
            refine LexTL.last ?_ ?_
            · intro i' j Φ hij _ hj v W W' hΦ ht
              rcases j with _ | _ | _ | _ | _ | _ | _ | _ | _ | _ | j
              all_goals simp only [List.nil_append, List.cons_append, List.getElem?_cons_zero, List.getElem?_cons_succ, List.getElem?_nil, Option.some.injEq, reduceCtorEq] at hj
              all_goals subst hj
              · exact hΦ
              · exact hΦ
              · exact hΦ
              · exact FNew.keep hΦ ht
              · exact hΦ
              · exact hΦ
              · exact hΦ
              · exact hΦ
              · exact FOne.keep hΦ ht
              · exact FRes.keep hΦ ht hij
            intro u w5 hk5 _ hd
            simp only [List.nil_append, List.cons_append] at hd
            obtain ⟨A5, c5, hu9, hO5⟩ := hd 9 _ rfl
            clear hd
            refine ⟨rfl, ?_⟩
            intro K hK
            have hb5 : Below w.heap.size w w5 := (hb.trans (hb3.mono hsz0)).trans (hk5.mono (by omega))
            have hr3 : RowF w5 A3 suf := (hO3.rowF).below hk5
            simp only [hu9]
            clear hu9 hcx3
            go_wp2_with (at_builtin; refine wpList_app_f rfl _ _ rfl W3.heap.size A5 c5 (pre ++ [x]) (a + 1) rfl (by rw [List.length_append, HPL.out]; rfl) hO5 A3 c3 suf m rfl HDL.out hr3 (by have := HDL.out; have := HM.out; omega) hk5.size ?_; intro A6 c6 W6 hO6 hg6 h6)
            have hb6 : Below w.heap.size w W6 := hb5.grown hg6 hb5.size (fun k hk => by have := (hO5.row_ge k hk).1; omega)
            go_roundw
            case rel =>
              have hlen : ((pre ++ [x]) ++ suf).length = k + 1 := by rw [List.length_append, List.length_append, HPL.out, HDL.out, HM.out]; simp; omega
              refine ⟨k + 1, A6, c6, (pre ++ [x]) ++ suf, by omega, by go_num, by rw [show a + 1 + m = k + 1 by have := HM.out; omega], hlen, ?_, ?_, hO6.mono (by omega), hb6⟩
              · rw [HTK.out, ← HWP.out, ← HWS.out]
                exact (perm_put zs x a).trans (List.Perm.append_right _ HP.out)
              · rw [← HWP.out, ← HWS.out]
                exact asc_put HA.out (by rw [HZL.out]; exact hak) HCUT.out (fun j h1 h2 => HGT.out j h1 (by rw [HZL.out] at h2; exact h2))
            case measure => simp [intOf]; omega
    · obtain rfl : k = n := by omega
      go_wp2_with fail
      go_ret
      exact ⟨A2, c2, zs, rfl, HZL.out, by have := HP.out; rwa [List.take_of_length_le (by have := HN.out; omega)] at this, HA.out, hO, hb⟩
end Go.Proofs.Ytoneofdihknnoab
