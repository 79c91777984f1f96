/- Texts in one: DocForm. -/
import Derived.Test.YtkaggddmhjifjaaGreatDoorK36
import Derived.Test.YtkaggddmhjifjaaGreatDoorK07
set_option linter.unusedSimpArgs false
set_option linter.unusedVariables false
namespace Go.Proofs.YtkaggddmhjifjaaGreatDoor
open Go.RowKit Go.Shelf
theorem edges_take {l : List Sp} {k : Nat} {s : Sp} (h : l[k]? = some s) : edgesT (l.take (k + 1)) = withT s.edge (edgesT (l.take k)) := by
 unfold edgesT
 rw [take_snoc' h, List.foldl_append]
 rfl
theorem ends_take {l : List Sp} {k : Nat} {s : Sp} (h : l[k]? = some s) : endsT (l.take (k + 1)) = withT s.hi (withT s.lo (endsT (l.take k))) := by
 unfold endsT
 rw [take_snoc' h, List.foldl_append]
 rfl
def foldF (a b : List Sp) (k : Keep) (ds es : List Int) (R : List Sp) : List Sp := es.foldl (fun out e => stepsT e (wantedT a b k e) false ds out) R
theorem form_fold (a b : List Sp) (k : Keep) : formT a b k = (foldF a b k (endsT (a ++ b)) (edgesT (a ++ b)) []).reverse := rfl
theorem fold_drop {a b : List Sp} {k : Keep} {ds es : List Int} {R : List Sp} {i : Nat} {e : Int} (h : es[i]? = some e) : foldF a b k ds (es.drop i) R = foldF a b k ds (es.drop (i + 1)) (stepsT e (wantedT a b k e) false ds R) := by
 unfold foldF
 rw [drop_cons h, List.foldl_cons]
theorem steps_drop {e : Int} {P : Int → Bool} {o : Bool} {ds : List Int} {R : List Sp} {j : Nat} {x y : Int} (hx : ds[j]? = some x) (hy : ds[j + 1]? = some y) : stepsT e P o (ds.drop j) R = stepsT e P (P x) (ds.drop (j + 1)) (putS e x y o (P x) R) := by
 rw [drop_cons hx, drop_cons hy, stepsT]
theorem steps_end {e : Int} {P : Int → Bool} {o : Bool} {ds : List Int} {R : List Sp} {j : Nat} (h : ds.length ≤ j + 1) : stepsT e P o (ds.drop j) R = R := by
 have hl : (ds.drop j).length ≤ 1 := by rw [List.length_drop]; omega
 match hd : ds.drop j with
 | [] => rw [stepsT]; intro x y l h; cases h
 | [x] => rw [stepsT]; intro x y l h; cases h
 | x :: y :: l => rw [hd] at hl; simp at hl
theorem putS_no (e x y : Int) (o : Bool) (R : List Sp) : putS e x y o false R = R := by simp [putS]
theorem putS_new (e x y : Int) (R : List Sp) : putS e x y false true R = ⟨e, x, y⟩ :: R := by simp [putS]
theorem putS_on (e x y : Int) (o : Sp) (R : List Sp) : putS e x y true true (o :: R) = ⟨o.edge, o.lo, y⟩ :: R := by simp [putS]
theorem cellI {w : World} {A : Option Addr} {l : List Int} {i : Nat} {x : Int} (h : RowsAt encI w A l) (hx : l[i]? = some x) : ∃ b off, A = some ⟨b, off, none⟩ ∧ b < w.heap.size ∧ w.cell? ⟨b, off + i, none⟩ = some (.int .i64 x) := by
 obtain ⟨b, off, e, hb, hc⟩ := h.get hx
 refine ⟨b, off, e, hb, ?_⟩
 have := hc 0 _ rfl
 simpa [encI] using this
theorem row_hi {w : World} {g p : Nat} {zs : List Sp} {o : Sp} (h : RowsAt encSp w (some ⟨g, 0, none⟩) zs) (hp : zs[p]? = some o) : w.cell? ⟨g, p * 3 + 2, none⟩ = some (.int .i64 o.hi) := by
 obtain ⟨b, off, e, _, hc⟩ := h.get hp
 simp only [Option.some.injEq, Addr.mk.injEq] at e
 obtain ⟨rfl, rfl, -⟩ := e
 have := hc 2 (.int .i64 o.hi) rfl
 simpa [encSp] using this
set_option maxRecDepth 8000 in
set_option maxHeartbeats 16000000 in
theorem rform_k (A : Option Addr) (n c : Nat) (a : List Sp) (B : Option Addr) (nb cb : Nat) (b : List Sp) (kp : Keep) (w : World) (ha : RowsAt encSp w A a) (hn : a.length = n) (hb : RowsAt encSp w B b) (hnb : b.length = nb) (hl : n + nb ≤ 100) :
  Calls Tryz.prog 172 #[.slice A n c, .slice B nb cb, .agg #[.bool kp.one, .bool kp.other, .bool kp.common]] w fun r w' => ∃ A' c', r = .returned (.slice A' (formT a b kp).length c') ∧ OwnRows encSp 75 w' w.heap.size A' c' (formT a b kp) ∧ Below w.heap.size w w' := by
 have hO : Own w _ [_] := (Own.nil w).alloc 226 #[.bool kp.one, .bool kp.other, .bool kp.common] _ rfl
 have hF := form_fold a b kp
 go_enter Tryz.func172, Tryz.ntmps172
 go_wp2_with (first
  |(at_builtin; refine wpList_app_rows rowSp rfl _ _ rfl (w.heap.size + 1) none 0 [] 0 rfl rfl (OwnRows.nil _ _) A c a n rfl hn (ha.below hO.below) (by omega) (by decide) hO.b0.lt ?_; intro A2 c2 w5 ho5 hg5 _; replace hO := hO.grown hg5 (fun g hg => by cases hg); replace ho5 : OwnRows encSp 75 w5 (w.heap.size + 1) A2 c2 a := ho5)
  |(at_builtin; refine wpList_app_rows rowSp rfl _ _ rfl (w.heap.size + 1) A2 c2 a n (by first | rfl | simp) hn ho5 B cb b nb rfl hnb (hb.below hO.below) (by omega) (by decide) hO.b0.lt ?_; intro A3 c3 w6 ho6 hg6 _; replace hO := hO.grown hg6 (fun g hg => by have := ho5.row_ge g hg; exact ⟨by omega, fun x hx => by simp only [List.mem_singleton] at hx; subst hx; simp only; omega⟩)))
 have hall := ho6.rows
 have hNl : (a ++ b).length = n + nb := by rw [List.length_append, hn, hnb]
 have hsz6 : w.heap.size + 1 ≤ w6.heap.size := hO.b0.lt
 clear ho5 ho6 hg5 hg6
 obtain ⟨N, hN⟩ : ∃ N, N = n + nb := ⟨_, rfl⟩
 rw [← hN] at hNl hl ⊢
 generalize hal : a ++ b = al at *
 have HN := Lib.hid hNl
 have HAL := Lib.hid hal
 have HNN := Lib.hid hN
 have HF := Lib.hid hF
 have HNA := Lib.hid hn
 have HNB := Lib.hid hnb
 have hna : n ≤ 100 := by omega
 have hnb' : nb ≤ 100 := by omega
 clear hNl hal hN hF hn hnb
 go_loopw [8, 9, 10] (fun s8 s9 x wr => ∃ (k q1 q2 : Nat) (Ae Ad : Option Addr) (ce cd : Nat), x = .int .i64 k ∧ k ≤ N ∧ s8 = .slice Ae q1 ce ∧ s9 = .slice Ad q2 cd ∧ q1 ≤ k ∧ q2 ≤ 2 * k ∧ Hid ((edgesT (al.take k)).length = q1) ∧ Hid ((endsT (al.take k)).length = q2) ∧ RowsAt encI wr Ae (edgesT (al.take k)) ∧ RowsAt encI wr Ad (endsT (al.take k)) ∧ Below w6.heap.size w6 wr) (fun _ _ x _ => N - (intOf x).toNat)
 case atStart => exact ⟨0, 0, 0, none, none, 0, 0, rfl, Nat.zero_le _, rfl, rfl, Nat.le_refl _, Nat.le_refl _, Lib.hid rfl, Lib.hid rfl, RowsAt.nil _ _, RowsAt.nil _ _, Below.refl _ _⟩
 case round =>
  obtain ⟨k, q1, q2, Ae, Ad, ce, cd, rfl, hk, rfl, rfl, hq1, hq2, hLe, hLd, hre, hrd, hw⟩ := hrel
  by_cases hlt : k < N
  ·
   have hdc : decide ((k : Int) < (N : Int)) = true := by simpa using hlt
   obtain ⟨s, hs⟩ := get_some HN.out hlt
   obtain ⟨g, off, rfl, hg, a0, a1, a2⟩ := hall.sp hs
   have kf0 := fun W (hW : Below w6.heap.size w6 W) => (hW.cell (p := ⟨g, off + k * 3, none⟩) hg).trans a0
   have kf1 := fun W (hW : Below w6.heap.size w6 W) => (hW.cell (p := ⟨g, off + k * 3 + 1, none⟩) hg).trans a1
   have kf2 := fun W (hW : Below w6.heap.size w6 W) => (hW.cell (p := ⟨g, off + k * 3 + 2, none⟩) hg).trans a2
   have hes := edges_take hs
   have hds := ends_take hs
   have HES := Lib.hid hes
   have HDS := Lib.hid hds
   clear hs a0 a1 a2 hes hds
   generalize edgesT (al.take k) = es at *
   generalize endsT (al.take k) = ds at *
   obtain ⟨y1, y2, y3⟩ := s
   simp only at kf0 kf1 kf2 HES HDS
   have hwE := rwith_k Ae q1 ce es y1 wr hre hLe.out (by omega)
   have hl1 := withT_len y1 es
   have hl2 := withT_len y2 ds
   have hl3 := withT_len y3 (withT y2 ds)
   have m0 := kf0 _ hw
   rw [hLe.out] at hl1
   rw [hLd.out] at hl2
   have HL1 := Lib.hid hl1
   have HL2 := Lib.hid hl2
   have HL3 := Lib.hid hl3
   clear hl1 hl2 hl3
   go_wp2_with (first
    |(go_at_call 230; (with_reducible refine hwE.mono ?_); rintro e w7 ⟨A7, c7, rfl, ho7, hb7⟩; have hw7 := hw.trans (hb7.mono hw.size); have m1 := kf1 _ hw7; have hwD := rwith_k Ad q2 cd ds y2 w7 (hrd.below hb7) hLd.out (by omega))
    |(go_at_call 230; (with_reducible refine hwD.mono ?_); rintro e w8 ⟨A8, c8, rfl, ho8, hb8⟩; have hw8 := hw7.trans (hb8.mono hw7.size); have m2 := kf2 _ hw8; have hwD2 := rwith_k A8 (withT y2 ds).length c8 (withT y2 ds) y3 w8 ho8.rows rfl (by have := HL2.out; omega))
    |(go_at_call 230; (with_reducible refine hwD2.mono ?_); rintro e w9 ⟨A9, c9, rfl, ho9, hb9⟩; have hw9 := hw8.trans (hb9.mono hw8.size)))
   go_roundw
   case rel => exact ⟨k + 1, (withT y1 es).length, (withT y3 (withT y2 ds)).length, A7, A9, c7, c9, by go_num, by omega, rfl, rfl, by have := HL1.out; omega, by have := HL2.out; have := HL3.out; omega, Lib.hid (by rw [HES.out]), Lib.hid (by rw [HDS.out]), by rw [HES.out]; exact (ho7.rows.below hb8).below hb9, by rw [HDS.out]; exact ho9.rows, hw9⟩
   case measure => simp [intOf]; omega
  ·
   obtain rfl : k = N := by omega
   have hdc : decide ((k : Int) < (k : Int)) = false := by simp
   rw [List.take_of_length_le (by rw [HN.out]; exact Nat.le_refl _)] at hLe hLd hre hrd
   obtain ⟨w7, rfl⟩ : ∃ w7, w7 = wr := ⟨_, rfl⟩
   replace hO := hO.grow hw
   have hsz7 : w.heap.size ≤ w7.heap.size := Nat.le_of_lt hO.b0.lt
   have ha7 := ha.below hO.below
   have hb7 := hb.below hO.below
   have hF := HF.out
   have hq1b : q1 ≤ 100 := by omega
   have hq2b : q2 ≤ 200 := by omega
   generalize edgesT al = es at *
   generalize endsT al = ds at *
   obtain ⟨FT, hFT⟩ : ∃ FT, FT = foldF a b kp ds es [] := ⟨_, rfl⟩
   rw [← hFT] at hF
   have HFF := Lib.hid hF
   have HFT := Lib.hid hFT
   clear hF hFT HF HAL hall hw hlt hk hq1 hq2 ha hb
   go_wp2_with fail
   clear hdc
   go_loopw [11, 12] (fun s x wr => ∃ (i z : Nat) (A1 : Option Addr) (c1 : Nat) (zs : List Sp), x = .int .i64 i ∧ i ≤ q1 ∧ s = .slice A1 z c1 ∧ z ≤ i * 200 ∧ Hid (zs.length = z) ∧ Hid (foldF a b kp ds (es.drop i) zs.reverse = FT) ∧ OwnRows encSp 75 wr w7.heap.size A1 c1 zs ∧ Below w7.heap.size w7 wr) (fun _ x _ => q1 - (intOf x).toNat)
   case atStart => exact ⟨0, 0, none, 0, [], rfl, Nat.zero_le _, rfl, Nat.zero_le _, Lib.hid rfl, Lib.hid (by rw [HFT.out]; rfl), OwnRows.nil _ _, Below.refl _ _⟩
   case round =>
    obtain ⟨i, z, A1, c1, zs, rfl, hi, rfl, hzi, hz, hJ, ho, hw⟩ := hrel
    by_cases hlt : i < q1
    ·
     have hdc : decide ((i : Int) < (q1 : Int)) = true := by simpa using hlt
     obtain ⟨e, he⟩ := get_some hLe.out hlt
     obtain ⟨ge, offe, rfl, hge, e0⟩ := cellI hre he
     have kes := fun W (hW : Below w7.heap.size w7 W) => (hW.cell (p := ⟨ge, offe + i, none⟩) hge).trans e0
     have hst := fold_drop (a := a) (b := b) (k := kp) (ds := ds) (R := zs.reverse) he
     rw [hJ.out] at hst
     have hPx : ∀ x, wantedT a b kp e x = wantT kp (hasT a e x) (hasT b e x) := fun _ => rfl
     generalize wantedT a b kp e = P at *
     obtain ⟨TT, hTT⟩ : ∃ TT, TT = stepsT e P false ds zs.reverse := ⟨_, rfl⟩
     rw [← hTT] at hst
     have HST := Lib.hid hst
     have HTT := Lib.hid hTT
     have HPX := Lib.hid hPx
     clear he e0 hst hTT hJ hPx
     go_wp2_with fail
     clear hdc
     go_loopw [11, 13, 14] (fun s o x wr => ∃ (j z : Nat) (A1 : Option Addr) (c1 : Nat) (zs : List Sp) (op : Bool), x = .int .i64 j ∧ j ≤ q2 ∧ o = .bool op ∧ s = .slice A1 z c1 ∧ z ≤ i * 200 + j ∧ Hid (op = true → 0 < z) ∧ Hid (zs.length = z) ∧ Hid (stepsT e P op (ds.drop j) zs.reverse = TT) ∧ OwnRows encSp 75 wr w7.heap.size A1 c1 zs ∧ Below w7.heap.size w7 wr) (fun _ _ x _ => q2 - (intOf x).toNat)
     case atStart => exact ⟨0, z, A1, c1, zs, false, rfl, Nat.zero_le _, rfl, rfl, by omega, Lib.hid (by simp), hz, Lib.hid (by rw [HTT.out]; rfl), ho, hw⟩
     case round =>
      clear hz ho hw hzi HTT
      obtain ⟨j, z, A1, c1, zs, op, rfl, hj, rfl, rfl, hzj, hop, hz, hJ, ho, hw⟩ := hrel
      by_cases hlt2 : j + 1 < q2
      ·
       have hdc : decide ((j : Int) + 1 < (q2 : Int)) = true := by simp; omega
       obtain ⟨x, hx⟩ := get_some hLd.out (show j < q2 by omega)
       obtain ⟨y, hy⟩ := get_some hLd.out hlt2
       obtain ⟨gd, offd, rfl, hgd, d0⟩ := cellI hrd hx
       obtain ⟨gd', offd', e', _, d1⟩ := cellI hrd hy
       simp only [Option.some.injEq, Addr.mk.injEq] at e'
       obtain ⟨rfl, rfl, -⟩ := e'
       have kdx := fun W (hW : Below w7.heap.size w7 W) => (hW.cell (p := ⟨gd, offd + j, none⟩) hgd).trans d0
       have kdy := fun W (hW : Below w7.heap.size w7 W) => (hW.cell (p := ⟨gd, offd + (j + 1), none⟩) hgd).trans d1
       have hst := steps_drop (e := e) (P := P) (o := op) (R := zs.reverse) hx hy
       rw [hJ.out] at hst
       have hha := fun W (hW : Below w7.heap.size w7 W) => rhas_k A n c a e x W (ha7.below hW) HNA.out (by omega)
       have hhb := fun W (hW : Below w7.heap.size w7 W) => rhas_k B nb cb b e x W (hb7.below hW) HNB.out (by omega)
       have hpx := HPX.out x
       have HST2 := Lib.hid hst.symm
       have hwa := fun W => rwanted_k kp (hasT a e x) (hasT b e x) W
       rw [← hpx] at hwa
       clear hx hy d0 d1 hst hJ hpx
       generalize hasT a e x = xa at *
       generalize hasT b e x = xb at *
       generalize P x = px at *
       go_wp2_with fail
       clear hdc
       apply wp_region_lex
       case hFl => intro u; simp only [List.map, fill, Act.put, List.setIfInBounds_toArray, List.set_cons_zero, List.set_cons_succ, Nat.reduceAdd, Nat.zero_add]; rfl
       case hm => kernel_rfl
       case hB => kernel_rfl
       case hap => kernel_rfl
       repeat (first | (apply Lex.is; · (intro u w' hk hd; simp [Waited, Region.binds, Is] at hd; refine looked_want ?_ ?_; (· (first | rfl | (simp [Region.wanted, yielded, hd]; done))); intro K hK; have hB2 := hw.trans (hk.mono hw.size); have m0 := kes _ hB2; have m1 := kdx _ hB2; go_wp2_with (go_at_call 231; (with_reducible refine (hha _ hB2).mono ?_); rintro e w3 ⟨rfl, hb3⟩); (try simp only [hd] at hK); refine hK _ _ ?_ rfl; first | exact Below.refl _ _ | exact hb3)) | (refine Lex.is (c := undef) ?_ ?_; · (intro u w' hk hd; simp [Waited, Region.binds, Is] at hd; refine looked_skip ?_ rfl; first | (simp [Region.wanted, yielded, hd]; done) | (simp [Region.wanted, yielded, hd, undef]; done))))
       apply Lex.nil
       intro u w' hk hd
       simp only [List.nil_append, List.cons_append] at hd
       have hlast := hd 10 _ rfl
       simp only [Is] at hlast
       clear hd
       simp only [hlast]
       clear hlast hha
       replace ho := ho.below hk
       replace hw := hw.trans (hk.mono hw.size)
       clear hk
       obtain ⟨w8, rfl⟩ : ∃ w8, w8 = w' := ⟨_, rfl⟩
       go_wp2_with fail
       apply wp_region_lex
       case hFl => intro u; simp only [List.map, fill, Act.put, List.setIfInBounds_toArray, List.set_cons_zero, List.set_cons_succ, Nat.reduceAdd, Nat.zero_add]; rfl
       case hm => kernel_rfl
       case hB => kernel_rfl
       case hap => kernel_rfl
       repeat (first | (apply Lex.is; · (intro u w' hk hd; simp [Waited, Region.binds, Is] at hd; refine looked_want ?_ ?_; (· (first | rfl | (simp [Region.wanted, yielded, hd]; done))); intro K hK; have hB2 := hw.trans (hk.mono hw.size); have m0 := kes _ hB2; have m1 := kdx _ hB2; go_wp2_with (go_at_call 231; (with_reducible refine (hhb _ hB2).mono ?_); rintro e w3 ⟨rfl, hb3⟩); (try simp only [hd] at hK); refine hK _ _ ?_ rfl; first | exact Below.refl _ _ | exact hb3)) | (refine Lex.is (c := undef) ?_ ?_; · (intro u w' hk hd; simp [Waited, Region.binds, Is] at hd; refine looked_skip ?_ rfl; first | (simp [Region.wanted, yielded, hd]; done) | (simp [Region.wanted, yielded, hd, undef]; done))))
       apply Lex.nil
       intro u w' hk hd
       simp only [List.nil_append, List.cons_append] at hd
       have hlast := hd 10 _ rfl
       simp only [Is] at hlast
       clear hd
       simp only [hlast]
       clear hlast hhb
       replace ho := ho.below hk
       replace hw := hw.trans (hk.mono hw.size)
       clear hk
       have hcl := (hO.grow hw).b0.cell
       cases px with
       | false =>
        rw [putS_no] at HST2
        go_wp2_with (first
         |(go_at_call 232; (with_reducible refine (hwa _).mono ?_); rintro e w9 ⟨rfl, hb9⟩; replace ho := ho.below hb9; replace hw := hw.trans (hb9.mono hw.size)))
        go_roundw
        case rel => exact ⟨j + 1, z, A1, c1, zs, false, by go_num, by omega, rfl, rfl, by omega, Lib.hid (by simp), hz, HST2, ho, hw⟩
        case measure => simp [intOf]; omega
       | true =>
        cases op with
        | false =>
         rw [putS_new] at HST2
         go_wp2_with (first
          |(go_at_call 232; (with_reducible refine (hwa _).mono ?_); rintro e w9 ⟨rfl, hb9⟩; replace ho := ho.below hb9; replace hw := hw.trans (hb9.mono hw.size)))
         have hbz := hw.size
         clear hcl hwa hb9
         apply wp_region_lextf (fun w w' => w.grownBy w' (A1.map (·.block))) (fun w => grown_below (below_drewN (Below.refl _ _) 1) _) (fun _ _ _ => grownTrans) (WaysQ (A1.map (·.block)) 16) (fun _ _ _ h => h.2) (fun i W => i = 16 → OwnRows encSp 75 W (w7.heap.size) A1 c1 zs) (fun _ _ => ho.below (below_drewN (Below.refl _ _) 1)) (fun i j W W' hij hp ht hi => (hp hi).below (ht.1 (fun h => hij (hi.trans h.symm))))
         case hFl =>
          intro u
          simp only [List.map, List.dropLast, fill, Act.put, List.setIfInBounds_toArray, List.set_cons_zero, List.set_cons_succ, Nat.reduceAdd, Nat.zero_add]
          with_reducible rfl
         case hm => kernel_rfl
         case hB => kernel_rfl
         case hA => kernel_rfl
         case hap => kernel_rfl
         repeat (first
          |(
            apply LexTL.is
            ·
             (
             intro u w' hk hpre hd
             clear hpre
             simp [Waited, Region.binds, Is] at hd
             refine lookedT_want ?_ ?_
             ·
              first
              | rfl
              |(simp [Region.wanted, yielded, hd]; done)
             intro K hK'
             have hB2 := below_grown hw ho hw.size hk; have m0 := kes _ hB2; have m1 := kdx _ hB2; have m2 := kdy _ hB2
             go_wp2_with fail
             try simp only [hd] at hK'
             refine hK' _ _ ?_ rfl
             exact waysQ_same _ _ _ _))
          |(
            refine LexTL.word (MsgQ 75 (A1.map (·.block)) #[.int .i64 e, .int .i64 x, .int .i64 y]) ?_ ?_
            ·
             (
             intro u w' hk hpre hd
             clear hpre
             simp [Waited, Region.binds, Is] at hd
             refine lookedT_want ?_ ?_
             ·
              first
              | rfl
              |(simp [Region.wanted, yielded, hd]; done)
             intro K hK'
             go_wp2_with fail
             try simp only [hd] at hK'
             exact hK' _ _ (waysQ_below ((Below.refl _ _).alloc (Nat.le_refl _) _)) ⟨w'.heap.size, rfl, Blk.new _ _ _, fun e => by have := (ho.row_ge _ e).2; have := hk.size; omega⟩))
          |(
            refine LexTL.word (RowQ encSp 75 (w7.heap.size) (z + 1) (zs ++ [⟨e, x, y⟩])) ?_ ?_
            ·
             (
             intro u w' hk hpre hd
             simp [Waited, Region.binds, Is] at hd
             obtain ⟨q1, bv, q2, hB, hn⟩ := hd
             refine lookedT_want ?_ ?_
             ·
              first
              | rfl
              |(simp [Region.wanted, yielded]; done)
             intro K hK'
             exact wp_app_rows rowSp (.tmp 103) (.tmp 118) rfl (w7.heap.size) A1 c1 zs z (by rw [← q1]; rfl) hz.out (hpre rfl) (some ⟨bv, 0, none⟩) 1 [⟨e, x, y⟩] 1 (by rw [← q2]; rfl) rfl (rowSp_one hB) (by omega) (by decide) (Nat.le_trans hbz hk.size) fun A2 c2 W h1 h2 _ => hK' _ _ ⟨fun h => absurd rfl h, h2⟩ ⟨A2, c2, rfl, h1⟩)))
         refine LexTL.last ?_ ?_
         ·
          refine stQ_last ?_
          simp only [List.nil_append, List.cons_append]
          repeat (refine ⟨?_, ?_⟩; · first | exact fun _ _ _ _ _ h _ => h | exact fun _ _ _ _ _ h ht => MsgQ.grow h ht.2 | exact fun _ hi _ _ _ h ht => RowQ.grow h (ht.1 hi))
          exact trivial
         intro u w2 hk2 _ hd
         simp only [List.nil_append, List.cons_append] at hd
         obtain ⟨A2, c2, hu, ho5⟩ := hd 16 _ rfl
         clear hd
         refine ⟨rfl, ?_⟩
         intro K hK'
         have hw2 := below_grown hw ho hw.size hk2
         simp only [hu]
         clear hu
         go_wp2_with fail
         go_roundw
         case rel => exact ⟨j + 1, z + 1, A2, c2, zs ++ [⟨e, x, y⟩], true, by go_num, by omega, rfl, by first | rfl | go_num, by omega, Lib.hid (by omega), Lib.hid (by rw [List.length_append, hz.out]; rfl), Lib.hid (by rw [List.reverse_append]; exact HST2.out), ho5, hw2⟩
         case measure => simp [intOf]; omega
        | true =>
         have hz0 := hop.out rfl
         obtain ⟨p, hzp⟩ : ∃ p, z = p + 1 := ⟨z - 1, by omega⟩
         have hpk : p < z := by omega
         have hpi : ((z : Int) - 1) = (p : Int) := by omega
         obtain ⟨o, hop2⟩ := get_some hz.out hpk
         have hzr : zs.reverse = o :: (zs.take p).reverse := by
          have h1 : zs = zs.take p ++ [o] := by
            rw [← take_snoc' hop2, List.take_of_length_le (by rw [hz.out]; omega)]
          rw [List.reverse_eq_iff, List.reverse_cons, List.reverse_reverse]
          exact h1
         have hst := HST2.out
         rw [hzr, putS_on] at hst
         have HST3 := Lib.hid (And.intro hst hzr)
         clear hst HST2 hzp hzr hop
         obtain ⟨g, cur, eA, hgl, hblk, hsz, h4, h5, h6⟩ := ho.blk (ho.some_ (by rw [hz.out]; omega))
         subst eA
         clear h4 h5 h6 hsz
         go_wp2_with (first
          |(go_at_call 232; (with_reducible refine (hwa _).mono ?_); rintro e w9 ⟨rfl, hb9⟩; replace ho := ho.below hb9; replace hw := hw.trans (hb9.mono hw.size); have hbk2 := hblk.below hb9 hblk.lt; have hfz := hbk2.frozen (p * 3 + 2); have m2 := kdy _ hw; have m3 := row_hi ho.rows hop2))
         go_roundw
         case rel =>
          have hs := setCells_heap g [.int .i64 y] (p * 3 + 2) w9
          have hgr : w9.grownBy (w9.setCells g (p * 3 + 2) [.int .i64 y]) (some g) := ⟨hs.2.2.1, hs.2.2.2.1, hs.2.2.2.2, Nat.le_of_eq hs.1.symm, fun i _ hne => hs.2.1 i (fun e => hne (by rw [e]))⟩
          obtain ⟨b9, off9, e9, _, hc9⟩ := ho.rows.get hop2
          simp only [Option.some.injEq, Addr.mk.injEq] at e9
          obtain ⟨rfl, rfl, -⟩ := e9
          have q0 := hc9 0 (.int .i64 o.edge) rfl
          have q1' := hc9 1 (.int .i64 o.lo) rfl
          simp only [encSp, Nat.zero_add, Nat.add_zero] at q0 q1'
          have a0 := (hbk2.cell (p * 3)).symm.trans q0
          have a1 := (hbk2.cell (p * 3 + 1)).symm.trans q1'
          have hput : Blk (w9.setCells g (p * 3 + 2) [.int .i64 y]) g 75 (putAt cur (p * encSp.k) (encSp.enc ⟨o.edge, o.lo, y⟩)) := by
           have e : putAt cur (p * encSp.k) (encSp.enc ⟨o.edge, o.lo, y⟩) = cur.setIfInBounds (p * 3 + 2) (.int .i64 y) := by
            show ((cur.setIfInBounds (p * 3) (.int .i64 o.edge)).setIfInBounds (p * 3 + 1) (.int .i64 o.lo)).setIfInBounds (p * 3 + 2) (.int .i64 y) = _
            rw [set_same a0, set_same a1]
           rw [e]
           exact hbk2.set_ _ _
          refine ⟨j + 1, z, some ⟨g, 0, none⟩, c1, zs.set p ⟨o.edge, o.lo, y⟩, true, by go_num, by omega, rfl, rfl, by omega, Lib.hid (by omega), Lib.hid (by rw [List.length_set, hz.out]), Lib.hid ?_, OwnRows.put ho (by rw [hz.out]; omega) _ hbk2 hput, below_grown hw ho hw.size hgr⟩
          rw [set_last HST3.out.2 (by rw [hz.out]; omega)]
          exact HST3.out.1
         case measure => simp [intOf]; omega
      ·
       have hdc : decide ((j : Int) + 1 < (q2 : Int)) = false := by simp; omega
       have hend := hJ.out
       rw [steps_end (by rw [hLd.out]; omega)] at hend
       have HEND := Lib.hid hend
       have hjz : z ≤ (i + 1) * 200 := by omega
       clear hend hJ hop
       go_wp2_with fail
       go_roundw
       case rel => exact ⟨i + 1, z, A1, c1, zs, by go_num, by omega, rfl, hjz, hz, Lib.hid (by rw [HEND.out]; exact HST.out.symm), ho, hw⟩
       case measure => simp [intOf]; omega
    ·
     obtain rfl : i = q1 := by omega
     have hdc : decide ((i : Int) < (i : Int)) = false := by simp
     have hfin : zs = formT a b kp := by
      have h1 := hJ.out
      rw [List.drop_of_length_le (by rw [hLe.out]; exact Nat.le_refl _)] at h1
      have h2 : foldF a b kp ds [] zs.reverse = zs.reverse := rfl
      rw [h2] at h1
      rw [HFF.out, ← h1, List.reverse_reverse]
     have hz2 := hz.out
     have HFIN := Lib.hid hfin
     clear hfin hJ
     go_wp2_with fail
     go_ret
     exact ⟨A1, c1, by rw [← HFIN.out, hz2]; rfl, HFIN.out ▸ ho.base hsz7, hO.below.trans (hw.mono hsz7)⟩
theorem rnorm_k (A : Option Addr) (n c : Nat) (a : List Sp) (w : World) (ha : RowsAt encSp w A a) (hn : a.length = n) (hl : n ≤ 100) : Calls Tryz.prog 119 #[.slice A n c] w fun r w' => ∃ A' c', r = .returned (.slice A' (normT a).length c') ∧ OwnRows encSp 75 w' w.heap.size A' c' (normT a) ∧ Below w.heap.size w w' := by
 have hf := rform_k A n c a none 0 0 [] ⟨true, false, false⟩ w ha hn (RowsAt.nil _ _) rfl (by omega)
 rw [form_norm] at hf
 simp only at hf
 go_enter Tryz.func119, Tryz.ntmps119
 go_wp2_with (first
  |(go_at_call 172; (with_reducible refine hf.mono ?_); rintro e w1 ⟨A1, c1, rfl, ho1, hb1⟩))
 go_ret
 exact ⟨A1, c1, rfl, ho1, hb1⟩
end Go.Proofs.YtkaggddmhjifjaaGreatDoor
