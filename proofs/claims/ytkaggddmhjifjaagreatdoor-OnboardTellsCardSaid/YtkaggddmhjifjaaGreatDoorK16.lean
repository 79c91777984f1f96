/- Texts in one: PlaceC. -/
import Derived.Test.YtkaggddmhjifjaaGreatDoorK13
set_option linter.unusedSimpArgs false
set_option linter.unusedVariables false
namespace Go.Proofs.YtkaggddmhjifjaaGreatDoor
open Go.RowKit Go.Shelf
theorem off_drop {t : Tp} {p : List St} {k : Nat} {s : St} {n : Int} (h : p[k]? = some s) : offAt t (p.drop k) n = if n ≤ edgeT t s.edge then overT t s n else offAt t (p.drop (k + 1)) (n - edgeT t s.edge) := by
 rw [drop_cons h, offAt]
theorem lens_drop {t : Tp} {p : List St} {k : Nat} {s : St} (h : p[k]? = some s) : lensT t (p.drop k) = edgeT t s.edge + lensT t (p.drop (k + 1)) := by
 rw [drop_cons h]
 simp [lensT]
set_option maxRecDepth 8000 in
set_option maxHeartbeats 4000000 in
theorem off_m {w : World} {t : Tp} {m : TpM} (h : TpIs w t m) (A : Option Addr) (n c : Nat) (path : List St) (x : Int) (hp : RowsAt encSt w A path) (hn : path.length = n) (hl : n ≤ 100) : Calls Tryz.prog 89 #[.agg m.cells, .slice A n c, .int .i64 x] w fun e w' => e = .returned (.tuple #[psV (offP t path x), .int .i64 (offE t path x)]) ∧ Below w.heap.size w w' := by
 have hO : Own w _ [_, _] := Own.start2 w 27 38 m.cells #[.int .i64 0, .int .i64 0, .bool false]
 have hcl := hO.b0.cell
 have hck := fun W (hW : Below w.heap.size w W) => check_m (h.below hW)
 have hle := fun W (hW : Below w.heap.size w W) => len_m (h.below hW) A n c path (hp.below hW) hn hl
 have hr : offE t path x = if checkT t ≠ 0 then 1 else if lenE t path ≠ 0 then lenE t path else if x < 0 ∨ lenT t path < x then 1 else 0 := rfl
 have hr2 : offP t path x = if offE t path x = 0 then offAt t path x else none_Ps := rfl
 have HN := Lib.hid hn
 generalize hoe : offE t path x = oe at *
 generalize hop : offP t path x = op at *
 clear hoe hop hn
 by_cases h1 : checkT t = 0
 ·
  rw [if_neg (by rw [h1]; simp)] at hr
  rw [h1] at hck
  by_cases h2 : lenE t path = 0
  ·
   rw [if_neg (by rw [h2]; simp)] at hr
   rw [h2] at hle
   have hok := len_ok h2
   have hlens := len_is (check_edges h1) h2
   by_cases h3 : x < 0
   ·
    obtain rfl : oe = 1 := by rw [hr, if_pos (.inl h3)]
    obtain rfl : op = none_Ps := by rw [hr2, if_neg (by decide)]
    have f3 : decide (x < 0) = true := by simpa using h3
    generalize lenT t path = lt at *
    clear hr hr2 h2 h1 hlens hok
    unfold TpM.cells at *
    go_enter Tryz.func89, Tryz.ntmps89
    go_wp2_with (first
     |(go_at_call 70; (with_reducible refine (hck _ hO.below).mono ?_); rintro e w1 ⟨rfl, hb1⟩; replace hO := hO.grow hb1; have hcl1 := hO.b0.cell)
     |(go_at_call 107; (with_reducible refine (hle _ hO.below).mono ?_); rintro e w2 ⟨rfl, hb2⟩; replace hO := hO.grow hb2; have hcl2 := hO.b0.cell)
     |((with_reducible refine own_row1 (#[.int .i64 0, .int .i64 0, .bool false]) hO rfl _ _ rfl rfl rfl (by kernel_rfl) rfl ?_ ?_); (· first | rfl | (simp [Value.oneCell']; done)); intro wR hOR hszR hkR; replace hO := hOR; clear hOR)
     )
    exact bodyPost_ret (results_ct1 Tryz.results89 _ _ _ _ _ _ rfl rfl hO.b1 Tryz.underlying38 rfl (by kernel_rfl)) rfl ⟨rfl, hO.below⟩
   have f3 : decide (x < 0) = false := by simpa using h3
   by_cases h4 : lenT t path < x
   ·
    obtain rfl : oe = 1 := by rw [hr, if_pos (.inr h4)]
    obtain rfl : op = none_Ps := by rw [hr2, if_neg (by decide)]
    generalize lenT t path = lt at *
    have f4 : decide (lt < x) = true := by simpa using h4
    clear hr hr2 h2 h1 hlens hok
    unfold TpM.cells at *
    go_enter Tryz.func89, Tryz.ntmps89
    go_wp2_with (first
     |(go_at_call 70; (with_reducible refine (hck _ hO.below).mono ?_); rintro e w1 ⟨rfl, hb1⟩; replace hO := hO.grow hb1; have hcl1 := hO.b0.cell)
     |(go_at_call 107; (with_reducible refine (hle _ hO.below).mono ?_); rintro e w2 ⟨rfl, hb2⟩; replace hO := hO.grow hb2; have hcl2 := hO.b0.cell)
     |((with_reducible refine own_row1 (#[.int .i64 0, .int .i64 0, .bool false]) hO rfl _ _ rfl rfl rfl (by kernel_rfl) rfl ?_ ?_); (· first | rfl | (simp [Value.oneCell']; done)); intro wR hOR hszR hkR; replace hO := hOR; clear hOR)
     )
    exact bodyPost_ret (results_ct1 Tryz.results89 _ _ _ _ _ _ rfl rfl hO.b1 Tryz.underlying38 rfl (by kernel_rfl)) rfl ⟨rfl, hO.below⟩
   obtain rfl : oe = 0 := by rw [hr, if_neg (by omega)]
   rw [if_pos rfl] at hr2
   have HR := Lib.hid hr2
   have hn0 : 0 < n := by
    have := hok.2.1
    rcases Nat.eq_zero_or_pos n with e | e
    ·
     have h5 := HN.out
     rw [e] at h5
     exact absurd (List.length_eq_zero_iff.1 h5) this
    ·
     exact e
   have hx : x ≤ lensT t path := by omega
   have HX := Lib.hid hx
   generalize lenT t path = lt at *
   have f4 : decide (lt < x) = false := by simp; omega
   clear hr hr2 h2 hlens hx
   unfold TpM.cells at *
   go_enter Tryz.func89, Tryz.ntmps89
   go_wp2_with (first
    |(go_at_call 70; (with_reducible refine (hck _ hO.below).mono ?_); rintro e w1 ⟨rfl, hb1⟩; replace hO := hO.grow hb1; have hcl1 := hO.b0.cell)
    |(go_at_call 107; (with_reducible refine (hle _ hO.below).mono ?_); rintro e w2 ⟨rfl, hb2⟩; replace hO := hO.grow hb2; have hcl2 := hO.b0.cell))
   clear hcl hcl1 hcl2 hck hle f3 f4
   go_loopw [2, 10] (fun a i wr => ∃ (k : Nat) (y : Int), i = .int .i64 k ∧ k < n ∧ a = .int .i64 y ∧ 0 ≤ y ∧ y ≤ 1000000000 ∧ Hid (y ≤ lensT t (path.drop k) ∧ offAt t path x = offAt t (path.drop k) y) ∧ Own w wr [(w.heap.size, 27, #[.slice m.A1 m.n1 m.c1, .slice m.A2 m.n2 m.c2, .slice m.A3 m.n3 m.c3, .slice m.A4 m.n4 m.c4]), (w.heap.size + 1, 38, #[.int .i64 0, .int .i64 0, .bool false])]) (fun _ i _ => n - (intOf i).toNat)
   case atStart => exact ⟨0, x, rfl, hn0, rfl, by omega, by have h5 := lens_nonneg (check_edges h1) path hok.2.2.1; have := HX.out; have := HN.out; omega, Lib.hid ⟨by simpa using HX.out, by simp⟩, hO⟩
   case round =>
    clear hO
    obtain ⟨k, y, rfl, hk, rfl, hy0, hy1, hap, hO⟩ := hrel
    have hcl := hO.b0.cell
    obtain ⟨s, hs⟩ := get_some HN.out hk
    obtain ⟨g, off, rfl, hg, a0, a1⟩ := hp.st hs
    have ka0 := fun W (hW : Below w.heap.size w W) => (hW.cell (p := ⟨g, off + k * 2, none⟩) hg).trans a0
    have ka1 := fun W (hW : Below w.heap.size w W) => (hW.cell (p := ⟨g, off + k * 2 + 1, none⟩) hg).trans a1
    have kk0 := ka0 _ hO.below
    have kk1 := ka1 _ hO.below
    have hth := hok.2.2.1 s (List.mem_of_getElem? hs)
    obtain ⟨i, ev, ge, offe, hi, hin, hie, hA1, hke, hev⟩ := edge_at h hth
    have hmax := check_edges h1 ev hev
    have hstep := off_drop (t := t) (n := y) hs
    have hlen := lens_drop (t := t) hs
    rw [hie] at hstep hlen
    have hov := fun W (hW : Below w.heap.size w W) => over_m (h.below hW) s y h1 hth hy0 (by omega)
    have hrest := lens_nonneg (check_edges h1) (path.drop (k + 1)) (fun z hz => hok.2.2.1 z (List.mem_of_mem_drop hz))
    have ke1 := hke _ hO.below
    have HS := Lib.hid hs
    clear hs a0 a1 hth hie hev
    obtain ⟨x1, x2⟩ := s
    simp only at hi kk0 kk1 ka0 ka1 hov
    subst hi
    simp only [TpM.cells, hA1] at hO hcl hov ⊢
    by_cases hgt : ev < y
    ·
     have f5 : decide (ev < y) = true := by simpa using hgt
     have hk2 : k + 1 < n := by
      rcases Nat.lt_or_ge (k + 1) n with e | e
      ·
       exact e
      ·
       have h5 : path.drop (k + 1) = [] := List.drop_of_length_le (by rw [HN.out]; exact e)
       have h6 := hap.out.1
       rw [hlen, h5] at h6
       simp [lensT] at h6
       omega
     rw [if_neg (by omega)] at hstep
     have HS2 := Lib.hid (show y - ev ≤ lensT t (path.drop (k + 1)) ∧ offAt t path x = offAt t (path.drop (k + 1)) (y - ev) from ⟨by have := hap.out.1; omega, hap.out.2.trans hstep⟩)
     clear hstep hlen hap hrest hov
     go_wp2_with fail
     go_quiet (fail)
     go_wp2_with fail
     go_quiet (fail)
     go_wp2_with fail
     go_roundw
     case rel => exact ⟨k + 1, y - ev, by go_num, by omega, rfl, by omega, by omega, HS2, hO.grow (below_drewN (Below.refl _ _) _)⟩
     case measure => simp [intOf]; omega
    ·
     have f5 : decide (ev < y) = false := by simpa using hgt
     rw [if_pos (by omega)] at hstep
     have HS2 := Lib.hid (hap.out.2.trans hstep)
     clear hstep hlen hap hrest
     have HOP := Lib.hid (HR.out.trans HS2.out)
     clear HS2 HR
     generalize overT t ⟨i, x2⟩ y = res at *
     obtain ⟨r1, r2, r3⟩ := res
     go_wp2_with fail
     go_quiet (fail)
     go_wp2_with fail
     generalize hwq : World.drewN wr _ = wq
     replace hO : Own w wq _ := hwq ▸ hO.grow (below_drewN (Below.refl _ _) _)
     clear hwq hcl
     apply wp_region_lexs [(w.heap.size + 1, none)]
     case hFl =>
      intro u
      simp only [List.map, fill, Act.put, List.setIfInBounds_toArray, List.set_cons_zero, List.set_cons_succ, Nat.reduceAdd, Nat.zero_add]
      rfl
     case hm => kernel_rfl
     case hB => kernel_rfl
     case hap => kernel_rfl
     repeat (first
      |(
        apply LexS.is
        ·
         (
         intro u w' hk hd
         simp [Waited, Region.binds, Is] at hd
         refine lookedT_want ?_ ?_
         ·
          first
          | rfl
          |(simp [Region.wanted, yielded, hd]; done)
         intro K hK
         have hB2 := hO.below.trans (hk.below hO.below.size (by intro k o h; simp at h; omega)); have hca := (hk.blk hO.b0 (by intro o h; simp at h; try omega)).cell; have m1 := ka0 _ hB2; have m2 := ka1 _ hB2
         go_wp2_with (go_at_call 156; (with_reducible refine (hov _ hB2).mono ?_); rintro e w3 ⟨rfl, hb3⟩)
         try simp only [hd] at hK
         refine hK _ _ ?_ rfl
         first | exact Stp.refl _ _ | exact Stp.of_below hb3 _))
      |(
        refine LexS.row (w.heap.size + 1) 38 _ (#[.int .i64 r1, .int .i64 r2, .bool r3]) (by simp) hO.b1 (by rfl) 38 _ _ rfl (by kernel_rfl) (by simp [Value.oneCell']) ?_ ?_
        ·
         (
         intro u w' hk hd
         simp [Waited, Region.binds, Is] at hd
         exact ⟨by first | rfl | simp [Region.wanted, yielded, hd], rfl, by simp [Act.eval, hd]⟩)))
     refine LexS.nil ?_ ?_
     ·
      simp [W2.fit, Apart2]
     intro u w7 hk hd
     simp only [List.nil_append, List.cons_append] at hd
     have h5 : Blk w7 (w.heap.size + 1) 38 #[.int .i64 r1, .int .i64 r2, .bool r3] := hd 7 _ rfl
     have h7 := hd 8 _ rfl
     simp only [Is] at h7
     clear hd
     go_wp2_with fail
     refine bodyPost_ret (results_ct1 Tryz.results89 _ _ _ _ _ _ rfl rfl h5 Tryz.underlying38 rfl (by kernel_rfl)) rfl ?_
     exact ⟨by simp [HOP.out, h7], hO.below.trans (hk.below hO.below.size (by intro k o h; simp at h; omega))⟩
  ·
   rw [if_pos h2] at hr
   generalize lenT t path = lt at *
   generalize lenE t path = le at *
   obtain rfl : op = none_Ps := by rw [hr2, hr, if_neg h2]
   have hne : (le != 0) = true := by simpa using h2
   have HR := Lib.hid hr
   clear hr hr2 h2 h1
   unfold TpM.cells at *
   go_enter Tryz.func89, Tryz.ntmps89
   go_wp2_with (first
    |(go_at_call 70; (with_reducible refine (hck _ hO.below).mono ?_); rintro e w1 ⟨rfl, hb1⟩; replace hO := hO.grow hb1; have hcl1 := hO.b0.cell)
    |(go_at_call 107; (with_reducible refine (hle _ hO.below).mono ?_); rintro e w2 ⟨rfl, hb2⟩; replace hO := hO.grow hb2; have hcl2 := hO.b0.cell)
    |((with_reducible refine own_row1 (#[.int .i64 0, .int .i64 0, .bool false]) hO rfl _ _ rfl rfl rfl (by kernel_rfl) rfl ?_ ?_); (· first | rfl | (simp [Value.oneCell']; done)); intro wR hOR hszR hkR; replace hO := hOR; clear hOR)
    )
   exact bodyPost_ret (results_ct1 Tryz.results89 _ _ _ _ _ _ rfl rfl hO.b1 Tryz.underlying38 rfl (by kernel_rfl)) rfl ⟨by simp [HR.out, none_Ps], hO.below⟩
 ·
  rw [if_pos h1] at hr
  subst hr
  obtain rfl : op = none_Ps := by rw [hr2, if_neg (by decide)]
  generalize checkT t = ck at *
  have hne : (ck != 0) = true := by simpa using h1
  clear hr2 h1 hle
  unfold TpM.cells at *
  go_enter Tryz.func89, Tryz.ntmps89
  go_wp2_with (first
   |(go_at_call 70; (with_reducible refine (hck _ hO.below).mono ?_); rintro e w1 ⟨rfl, hb1⟩; replace hO := hO.grow hb1)
   |((with_reducible refine own_row1 (#[.int .i64 0, .int .i64 0, .bool false]) hO rfl _ _ rfl rfl rfl (by kernel_rfl) rfl ?_ ?_); (· first | rfl | (simp [Value.oneCell']; done)); intro wR hOR hszR hkR; replace hO := hOR; clear hOR)
   )
  exact bodyPost_ret (results_ct1 Tryz.results89 _ _ _ _ _ _ rfl rfl hO.b1 Tryz.underlying38 rfl (by kernel_rfl)) rfl ⟨rfl, hO.below⟩
end Go.Proofs.YtkaggddmhjifjaaGreatDoor
