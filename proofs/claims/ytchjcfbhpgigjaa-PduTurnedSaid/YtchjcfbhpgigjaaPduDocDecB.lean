/- What the document takes bytes for: kinds 5 and 6. -/
import Derived.Test.YtchjcfbhpgigjaaPduDocDecA
set_option linter.unusedSimpArgs false
set_option linter.unusedVariables false
namespace Go.Proofs.Ytchjcfbhpgigjaa
open Go.RowKit Go.Shelf
attribute [local go_sem high] conv_64_i64
set_option maxHeartbeats 4000000 in
theorem rdec_5b (b off c : Nat) (bs : List UInt8) (w : World) (hB : Bytes w (some ⟨b, off, none⟩) c bs) (hlen : bs.length ≤ 2000) (h1 : 1 ≤ bs.length) (hk0 : ((nth bs 0).toNat : Int) / 2 = 5) (hlong : 18 < bs.length) :
    Calls Try.prog 17 #[.slice (some ⟨b, off, none⟩) bs.length c] w fun e w' => ∃ v, e = .returned (.tuple #[v, .int .i64 (if (decR bs).isSome then 0 else 8)]) ∧ IsPduB ((decR bs).getD P7.none_) v w' ∧ Below w.heap.size w w' := by
  have hl : ¬ ((bs.length : Int) < 1) := by omega
  obtain ⟨b', off', e0, hblt, hb0⟩ := hB.at_ (k := 0) (by omega)
  simp only [Option.some.injEq, Addr.mk.injEq, and_true] at e0
  obtain ⟨rfl, rfl⟩ := e0
  rw [Nat.add_zero] at hb0
  obtain ⟨er, her⟩ : ∃ er : Int, er = if (decR bs).isSome then 0 else 8 := ⟨_, rfl⟩
  obtain ⟨q, hq⟩ : ∃ q, q = (decR bs).getD P7.none_ := ⟨_, rfl⟩
  rw [← her, ← hq]
  replace her := Lib.hid her
  replace hq := Lib.hid hq
  go_enter Try.func17, Try.ntmps17
  go_wp2_with fail
  obtain ⟨w1, hw1⟩ : ∃ w1, w1 = w.alloc (.cells #[.int .i64 0, .int .i64 0, .int .i64 0, .int .u32 0, .int .u32 0, .slice none 0 0, .int .u64 0] 26) := ⟨_, rfl⟩
  rw [← hw1]
  have hg0 : Blk w1 w.heap.size 26 #[.int .i64 0, .int .i64 0, .int .i64 0, .int .u32 0, .int .u32 0, .slice none 0 0, .int .u64 0] := by rw [hw1]; exact Blk.new _ _ _
  have hb01 : Below w.heap.size w w1 := by rw [hw1]; exact (Below.refl _ _).alloc (Nat.le_refl _) _
  have hz1 : w1.heap.size = w.heap.size + 1 := by rw [hw1]; simp
  have hB1 := hB.below hb01
  have hb1 : w1.cell? ⟨b, off, none⟩ = some (q8 (nth bs 0)) := (hb01.cell (p := ⟨b, off, none⟩) hblt).trans hb0
  have hblt1 : b < w1.heap.size := by omega
  clear hw1
  have hcap := hB.cap
  have hmax := hB.max
  obtain ⟨T, hT⟩ : ∃ T, T = BitVec.ofNat 64 (getR bs 1 3) := ⟨_, rfl⟩
  have hT3 := getR3 bs
  rw [← hT] at hT3
  have hTlt : T.toNat < 9223372036854775808 := by omega
  have hn1 := fun W (h : Bytes W (some ⟨b, off, none⟩) c bs) => get_lit3 (some ⟨b, off, none⟩) c bs 1 W h (by omega) (by omega) (by omega)
  rw [← hT] at hn1
  obtain ⟨b0, hbb⟩ : ∃ b0, b0 = nth bs 0 := ⟨_, rfl⟩
  rw [← hbb] at hb1
  replace hT := Lib.hid hT
  replace hT3 := Lib.hid hT3
  replace hbb := Lib.hid hbb
  apply wp_region_lexl
  case hFl =>
    intro u
    simp only [List.map, fill, Act.put, List.setIfInBounds_toArray, List.set_cons_zero, List.set_cons_succ, Nat.reduceAdd, Nat.zero_add]
    rfl
  case hm => kernel_rfl
  case hB => kernel_rfl
  case hA => kernel_rfl
  case hap => kernel_rfl
  iterate 11 (
    apply LexL.is
    · (intro u w' hk hd
       simp [Waited, Region.binds, Is] at hd
       refine looked_want (by first | rfl | simp [Region.wanted, yielded, hd]) ?_
       intro K hK
       obtain ⟨hcR, _⟩ := bcell hk
       go_wp2_with (fail)
       try simp only [hd] at hK
       refine hK _ _ ?_ rfl
       first | exact Below.refl _ _ | exact hb3)
    )
  apply LexL.is
  · (intro u w' hk hd
     simp [Waited, Region.binds, Is] at hd
     refine looked_want (by first | rfl | simp [Region.wanted, yielded, hd]) ?_
     intro K hK
     obtain ⟨hcR, _⟩ := bcell hk
     go_wp2_with ((go_at_call 28; (with_reducible refine (hn1 _ (hB1.below hk)).mono ?_); rintro e wn ⟨rfl, rfl⟩))
     try simp only [hd] at hK
     refine hK _ _ ?_ rfl
     first | exact Below.refl _ _ | exact hb3)
  iterate 2 (
    apply LexL.is
    · (intro u w' hk hd
       simp [Waited, Region.binds, Is] at hd
       refine looked_want (by first | rfl | simp [Region.wanted, yielded, hd]) ?_
       intro K hK
       obtain ⟨hcR, _⟩ := bcell hk
       go_wp2_with (fail)
       try simp only [hd] at hK
       refine hK _ _ ?_ rfl
       first | exact Below.refl _ _ | exact hb3)
    )
  refine LexL.word (IsNew w1.heap.size) (fun _ _ _ h hb => h.grow hb) ?_ ?_
  · (intro u w' hk hd
     simp [Waited, Region.binds, Is] at hd
     refine looked_want (by first | rfl | simp [Region.wanted, yielded, hd]) ?_
     intro K hK
     obtain ⟨hcR, _⟩ := bcell hk
     skip
     go_wp2_with (fail)
     skip
     exact hK _ _ ((Below.refl _ _).alloc (Nat.le_refl _) _) ⟨_, rfl, hk.size, Blk.new _ _ _⟩)
  refine LexL.last ?_
  intro u w2 hk hd
  simp only [List.nil_append, List.cons_append] at hd
  obtain ⟨g, hu, hgw, hgB⟩ := hd 14 _ rfl
  have hv := hd 13 _ rfl
  simp only [Is] at hv
  rw [show wrap64 ((b0.toNat : Int) / 2) = (b0.toNat : Int) / 2 from by have := b0.toNat_lt; unfold wrap64; omega] at hv
  clear hd
  refine ⟨rfl, ?_⟩
  intro K hK
  refine wp_store_row 26 (.tmp 4) (.tmp 25) rfl g #[.int .i64 ((b0.toNat : Int) / 2), .int .i64 ((b0.toNat : Int) % 2), .int .i64 T.toNat, .int .u32 0, .int .u32 0, .slice none 0 0, .int .u64 0] hu hv 26 _ hgB (by kernel_rfl) rfl (by simp [Value.oneCell']) (hK _ _ ?_)
  obtain ⟨w3, hw3⟩ : ∃ w3, w3 = w2.setRow g #[.int .i64 ((b0.toNat : Int) / 2), .int .i64 ((b0.toNat : Int) % 2), .int .i64 T.toNat, .int .u32 0, .int .u32 0, .slice none 0 0, .int .u64 0] := ⟨_, rfl⟩
  rw [← hw3]
  have hg3 : Blk w3 g 26 #[.int .i64 ((b0.toNat : Int) / 2), .int .i64 ((b0.toNat : Int) % 2), .int .i64 T.toNat, .int .u32 0, .int .u32 0, .slice none 0 0, .int .u64 0] := by rw [hw3]; exact hgB.row _
  have hb13 : Below w1.heap.size w1 w3 := by rw [hw3]; exact below_row hk hgw _
  clear hw3 hgB
  have hb03 : Below w.heap.size w w3 := hb01.trans (hb13.mono (by omega))
  have hr3 := hg0.below hb13 (by omega)
  have hB3 := hB.below hb03
  obtain ⟨X, hX⟩ : ∃ X, X = BitVec.ofNat 64 (getR bs 4 4) := ⟨_, rfl⟩
  have hn2 := fun W (h : Bytes W (some ⟨b, off, none⟩) c bs) => get_lit4 (some ⟨b, off, none⟩) c bs 4 W h (by omega) (by omega) (by omega)
  rw [← hX] at hn2
  replace hX := Lib.hid hX
  obtain ⟨Z, hZ⟩ : ∃ Z, Z = BitVec.ofNat 64 (getR bs 8 4) := ⟨_, rfl⟩
  have hn3 := fun W (h : Bytes W (some ⟨b, off, none⟩) c bs) => get_lit4 (some ⟨b, off, none⟩) c bs 8 W h (by omega) (by omega) (by omega)
  rw [← hZ] at hn3
  replace hZ := Lib.hid hZ
  obtain ⟨Y, hY⟩ : ∃ Y, Y = BitVec.ofNat 64 (getR bs ((bs.length : Int) - 8) 8) := ⟨_, rfl⟩
  have hn4 := fun W (h : Bytes W (some ⟨b, off, none⟩) c bs) => get_lit8 (some ⟨b, off, none⟩) c bs ((bs.length : Int) - 8) W h (by omega) (by omega) (by omega)
  rw [← hY] at hn4
  replace hY := Lib.hid hY
  have hgn : w.heap.size < g := by omega
  have S3 : DecSt w w3 g _ := ⟨hg3, hr3, hb03, hgn⟩
  clear hn1 hb0 hb1 hv hTlt hblt1
  generalize hKd : (b0.toNat : Int) / 2 = kd at *
  generalize hDd : (b0.toNat : Int) % 2 = dd at *
  generalize hTd : (T.toNat : Int) = td at *
  have hcd := candR_of bs h1 b0 hbb.out T X Y Z hT3.out.1 hX.out hY.out hZ.out kd dd td hKd hDd hTd
  replace hcd := Lib.hid hcd
  replace hKd := Lib.hid hKd
  replace hDd := Lib.hid hDd
  replace hTd := Lib.hid hTd
  have hc3 := hg3.cell
  have hf3 := hg3.frozen
  have hk5 : kd = 5 := by rw [← hKd.out, hbb.out]; exact hk0
  have hbody : bodyR bs 10 = (bs.drop 10).take (bs.length - 8 - 10) := by unfold bodyR; rw [if_pos (by omega)]
  replace hcd := Lib.hid (hcd.out.trans (if_neg (by omega)))
  replace hcd := Lib.hid (hcd.out.trans (if_neg (by omega)))
  skip
  replace hcd := Lib.hid (hcd.out.trans (if_pos hk5))
  subst hk5
  have hcand := hcd.out
  rw [hbody] at hcand
  clear hbody
  obtain ⟨m, hm0⟩ : ∃ m, m = bs.length - 8 - 10 := ⟨_, rfl⟩
  rw [← hm0] at hcand
  obtain ⟨A9, hA9⟩ : ∃ A9, A9 = cutA (some ⟨b, off, none⟩) 10 c := ⟨_, rfl⟩
  obtain ⟨c9, hc9⟩ : ∃ c9, c9 = c - 10 := ⟨_, rfl⟩
  have hs9 : ∀ W, (Instr.slice 23 (.slice (some ⟨b, off, none⟩) bs.length c) (some (.int .i64 10)) (some (.int .i64 ((bs.length : Int) - 8))) none).run Try.prog W = .ok (.slice A9 m c9) W := fun W => by
    rw [slice_bytes_lh _ _ _ _ _ _ _ _ (by omega) (by omega) (by omega), hA9, hc9, hm0, show ((bs.length : Int) - 8).toNat = bs.length - 8 by omega]
    rfl
  have hB9 := fun W (h : Bytes W (some ⟨b, off, none⟩) c bs) => h.cutA 10 m (by omega)
  rw [← hA9, ← hc9] at hB9
  have hlm : ((bs.drop 10).take m).length = m := by simp; omega
  have hm2 : m ≤ 2000 := by omega
  generalize (bs.drop 10).take m = sub at hcand hB9 hlm
  replace hm0 := Lib.hid hm0
  replace hA9 := Lib.hid hA9
  replace hc9 := Lib.hid hc9
  have hgt : 10 < (bs.length : Int) - 8 := by omega
  go_wp2_with (first
    | (go_at_call 28; (with_reducible refine (hn2 _ hB3).mono ?_); rintro e wn ⟨rfl, rfl⟩)
    | (go_at_call 28; (with_reducible refine (hn4 _ ((S3.set 4 _).bytes hB)).mono ?_); rintro e wn ⟨rfl, rfl⟩))
  have S6 : DecSt w _ g #[.int .i64 5, .int .i64 dd, .int .i64 td, .int .u32 0, q32 (X.setWidth 32), .slice none 0 0, q64 Y] := (S3.set 4 (q32 (X.setWidth 32))).set 6 (q64 Y)
  have hz6 := Nat.lt_of_lt_of_le hgn (Nat.le_of_lt S6.pdu.lt)
  have hB6 := S6.bytes hB
  generalize hw6 : World.setCell (World.setCell _ _ _) ⟨g, 6, none⟩ (q64 Y) = w6 at S6 hB6
  try rw [hw6]
  clear hw6 hc3 hf3
  have hc3 := S6.pdu.cell
  have hf3 := S6.pdu.frozen
  have hlt6 : g < w6.heap.size := S6.pdu.lt
  apply wp_region_lexl
  case hFl =>
    intro u
    simp only [List.map, fill, Act.put, List.setIfInBounds_toArray, List.set_cons_zero, List.set_cons_succ, Nat.reduceAdd, Nat.zero_add]
    rfl
  case hm => kernel_rfl
  case hB => kernel_rfl
  case hA => kernel_rfl
  case hap => kernel_rfl
  iterate 5 (
    apply LexL.is
    · (intro u w' hk hd
       simp [Waited, Region.binds, Is] at hd
       refine looked_want (by first | rfl | simp [Region.wanted, yielded, hd]) ?_
       intro K hK
       obtain ⟨hcR, _⟩ := bcell hk
       go_wp2_with (fail)
       try simp only [hd] at hK
       refine hK _ _ ?_ rfl
       first | exact Below.refl _ _ | exact hb3)
    )
  refine LexL.word (NewBytes w6.heap.size sub) (fun _ _ _ h hb => h.grow hb) ?_ ?_
  · (intro u w' hk hd
     simp [Waited, Region.binds, Is] at hd
     obtain ⟨hd1, hd2⟩ := hd
     refine looked_want (by first | rfl | simp [Region.wanted, yielded]) ?_
     intro K hK
     refine wp_app_new (.tmp 65) (.tmp 68) rfl hd1 A9 c9 sub m hd2 hlm.symm (hB9 _ (hB6.below hk)) (by omega) ?_
     intro A3 c3 W ho hb
     refine hK _ _ hb ?_
     rw [← hlm]
     exact ho.new.mono hk.size)
  apply LexL.is
  · (intro u w' hk hd
     simp [Waited, Region.binds, Is] at hd
     refine looked_want (by first | rfl | simp [Region.wanted, yielded, hd]) ?_
     intro K hK
     obtain ⟨hcR, _⟩ := bcell hk
     go_wp2_with (fail)
     try simp only [hd] at hK
     refine hK _ _ ?_ rfl
     first | exact Below.refl _ _ | exact hb3)
  refine LexL.last ?_
  intro u8 w8 hk8 hd
  simp only [List.nil_append, List.cons_append] at hd
  have hu6 := hd 6 _ rfl
  have hnew := hd 5 _ rfl
  simp only [Is] at hu6
  clear hd hc3 hf3
  obtain ⟨Ab, cb, hu5, hBb, hfr⟩ := id hnew
  rw [hlm] at hu5
  replace hnew := hnew.mono (base' := g + 1) hlt6
  have S4 := S6.grow hk8
  have hc3 := S4.pdu.cell
  have hf3 := S4.pdu.frozen
  have hv5 := hnew.setCell (p := ⟨g, 5, none⟩) (by show g < _; omega) (.slice Ab m cb)
  rw [hu5] at hv5
  clear hBb hfr hnew
  obtain ⟨Ab', cb', ev, hBb, _⟩ := id hv5
  simp only [Value.slice.injEq] at ev
  obtain ⟨rfl, hx, rfl⟩ := ev
  clear hx
  have henc : ∀ W Ab cb, Bytes W Ab cb sub → Calls Try.prog 11 #[.agg #[.int .i64 5, .int .i64 dd, .int .i64 td, .int .u32 0, q32 (X.setWidth 32), .slice Ab m cb, q64 Y]] W fun e w' => ∃ v, e = .returned (.tuple #[v, .int .i64 (if may ⟨5, dd, td, 0, X.setWidth 32, sub, Y⟩ then 0 else 1)]) ∧ IsBytes (enc ⟨5, dd, td, 0, X.setWidth 32, sub, Y⟩) v w' ∧ Below W.heap.size W w' :=
    fun W Ab cb h => prenc_k ⟨5, dd, td, 0, X.setWidth 32, sub, Y⟩ Ab m cb W hlm h (by show sub.length ≤ _; omega)
  generalize hp : (⟨5, dd, td, 0, X.setWidth 32, sub, Y⟩ : P7) = p at hcand henc
  replace hp := Lib.hid hp
  refine ⟨rfl, ?_⟩
  intro K2 hK2
  obtain ⟨s1, hs1⟩ : ∃ s1, s1 = strOf (enc p) := ⟨_, rfl⟩
  obtain ⟨s2, hs2⟩ : ∃ s2, s2 = strOf bs := ⟨_, rfl⟩
  have hse0 : s1.toList = s2.toList ↔ enc p = bs := by rw [hs1, hs2]; exact strOf_eq _ _
  replace hs1 := Lib.hid hs1
  replace hs2 := Lib.hid hs2
  replace hse0 := Lib.hid hse0
  cases hm : may p with
  | false =>
    have hdec : decR bs = none := by simp [decR, hcand, hm]
    have her' := her.out
    have hq' := hq.out
    rw [hdec] at her' hq'
    replace her' : er = 8 := her'
    replace hq' : q = P7.none_ := hq'
    replace her' := Lib.hid her'
    replace hq' := Lib.hid hq'
    simp only [hm, Bool.false_eq_true, if_false] at henc
    go_wp2_with (
      (first
        | (go_at_call 28; (with_reducible refine (hn2 _ hB3).mono ?_); rintro e wn ⟨rfl, rfl⟩)
        | (fail)
        | (go_at_call 11; go_loud (with_reducible refine (henc _ _ _ hBb).mono ?_); rintro e w5 ⟨va, rfl, ⟨Aa, ca, rfl, hBa⟩, hb5⟩; go_loud (have S5 : DecSt w w5 g (#[.int .i64 5, .int .i64 dd, .int .i64 td, .int .u32 0, q32 (X.setWidth 32), .slice Ab m cb, q64 Y]) := DecSt.grow (S4.set 5 _) hb5; have hg5 := S5.pdu; have hb05 := S5.below; have hr5 := S5.res; have hB5 := hB.below hb05; clear hc3 hf3; have hv1 := run_bytes_string hBa; rw [← hs1.out] at hv1; have hv2 := run_bytes_string hB5; rw [← hs2.out] at hv2))
        | (with_reducible refine wpList_store_own2 rfl 26 (.tmp 2) (.tmp 104) rfl w.heap.size #[.int .i64 0, .int .i64 0, .int .i64 0, .int .u32 0, .int .u32 0, .slice none 0 0, .int .u64 0] rfl rfl 26 _ hr5 (by kernel_rfl) rfl (by simp [Value.oneCell']) w.heap.size w hb05 (Nat.le_refl _) ?_; intro w7 hg7 hb07 hz7 hk7)
        | (with_reducible refine wpList_load_blk rfl 26 (.tmp 4) rfl g rfl 26 (#[.int .i64 5, .int .i64 dd, .int .i64 td, .int .u32 0, q32 (X.setWidth 32), .slice Ab m cb, q64 Y]) _ hg5 Try.underlying26 rfl (by kernel_rfl) ?_)
        | (with_reducible refine wpList_store_own2 rfl 26 (.tmp 2) (.tmp 105) rfl w.heap.size (#[.int .i64 5, .int .i64 dd, .int .i64 td, .int .u32 0, q32 (X.setWidth 32), .slice Ab m cb, q64 Y]) rfl rfl 26 _ hr5 (by kernel_rfl) rfl (by simp [Value.oneCell', q32, q64]) w.heap.size w hb05 (Nat.le_refl _) ?_; intro w7 hg7 hb07 hz7 hk7))
      )
    have hc7 := hg7.cell
    refine bodyPost_ret (v := .tuple #[.agg #[.int .i64 0, .int .i64 0, .int .i64 0, .int .u32 0, .int .u32 0, .slice none 0 0, .int .u64 0], .int .i64 8]) (by simp [results, Try.results17, go_sem, hc7]) rfl ⟨_, by rw [her'.out], by rw [hq'.out]; exact ⟨none, 0, rfl, Bytes.nil _⟩, hb07⟩
  | true =>
    simp only [hm, if_true] at henc
    by_cases heq : enc p = bs
    · have hdec : decR bs = some p := by simp [decR, hcand, hm, heq]
      have her' := her.out
      have hq' := hq.out
      rw [hdec] at her' hq'
      replace her' : er = 0 := her'
      replace hq' : q = p := hq'
      replace her' := Lib.hid her'
      replace hq' := Lib.hid hq'
      have hse := hse0.out.2 heq
      replace heq := Lib.hid heq
      go_wp2_with (
        (first
          | (go_at_call 28; (with_reducible refine (hn2 _ hB3).mono ?_); rintro e wn ⟨rfl, rfl⟩)
          | (fail)
          | (go_at_call 11; go_loud (with_reducible refine (henc _ _ _ hBb).mono ?_); rintro e w5 ⟨va, rfl, ⟨Aa, ca, rfl, hBa⟩, hb5⟩; go_loud (have S5 : DecSt w w5 g (#[.int .i64 5, .int .i64 dd, .int .i64 td, .int .u32 0, q32 (X.setWidth 32), .slice Ab m cb, q64 Y]) := DecSt.grow (S4.set 5 _) hb5; have hg5 := S5.pdu; have hb05 := S5.below; have hr5 := S5.res; have hB5 := hB.below hb05; clear hc3 hf3; have hv1 := run_bytes_string hBa; rw [← hs1.out] at hv1; have hv2 := run_bytes_string hB5; rw [← hs2.out] at hv2))
          | (with_reducible refine wpList_store_own2 rfl 26 (.tmp 2) (.tmp 104) rfl w.heap.size #[.int .i64 0, .int .i64 0, .int .i64 0, .int .u32 0, .int .u32 0, .slice none 0 0, .int .u64 0] rfl rfl 26 _ hr5 (by kernel_rfl) rfl (by simp [Value.oneCell']) w.heap.size w hb05 (Nat.le_refl _) ?_; intro w7 hg7 hb07 hz7 hk7)
          | (with_reducible refine wpList_load_blk rfl 26 (.tmp 4) rfl g rfl 26 (#[.int .i64 5, .int .i64 dd, .int .i64 td, .int .u32 0, q32 (X.setWidth 32), .slice Ab m cb, q64 Y]) _ hg5 Try.underlying26 rfl (by kernel_rfl) ?_)
          | (with_reducible refine wpList_store_own2 rfl 26 (.tmp 2) (.tmp 105) rfl w.heap.size (#[.int .i64 5, .int .i64 dd, .int .i64 td, .int .u32 0, q32 (X.setWidth 32), .slice Ab m cb, q64 Y]) rfl rfl 26 _ hr5 (by kernel_rfl) rfl (by simp [Value.oneCell', q32, q64]) w.heap.size w hb05 (Nat.le_refl _) ?_; intro w7 hg7 hb07 hz7 hk7))
        )
      have hc7 := hg7.cell
      refine bodyPost_ret (v := .tuple #[.agg #[.int .i64 5, .int .i64 dd, .int .i64 td, .int .u32 0, q32 (X.setWidth 32), .slice Ab m cb, q64 Y], .int .i64 0]) (by simp [results, Try.results17, go_sem, hc7]) rfl ⟨_, by rw [her'.out], by rw [hq'.out]; ((rw [← hp.out]; exact ⟨Ab, cb, by simp only [hlm]; rfl, (NewBytes.is_at ((hv5.grow hb5).kept (by omega) fun k hk _ => hk7 k (by omega)) hlm)⟩)), hb07⟩
    · have hdec : decR bs = none := by simp [decR, hcand, hm, heq]
      have her' := her.out
      have hq' := hq.out
      rw [hdec] at her' hq'
      replace her' : er = 8 := her'
      replace hq' : q = P7.none_ := hq'
      replace her' := Lib.hid her'
      replace hq' := Lib.hid hq'
      have hse : (s1.toList == s2.toList) = false := beq_eq_false_iff_ne.2 fun h => heq (hse0.out.1 h)
      replace heq := Lib.hid heq
      go_wp2_with (
        (first
          | (go_at_call 28; (with_reducible refine (hn2 _ hB3).mono ?_); rintro e wn ⟨rfl, rfl⟩)
          | (fail)
          | (go_at_call 11; go_loud (with_reducible refine (henc _ _ _ hBb).mono ?_); rintro e w5 ⟨va, rfl, ⟨Aa, ca, rfl, hBa⟩, hb5⟩; go_loud (have S5 : DecSt w w5 g (#[.int .i64 5, .int .i64 dd, .int .i64 td, .int .u32 0, q32 (X.setWidth 32), .slice Ab m cb, q64 Y]) := DecSt.grow (S4.set 5 _) hb5; have hg5 := S5.pdu; have hb05 := S5.below; have hr5 := S5.res; have hB5 := hB.below hb05; clear hc3 hf3; have hv1 := run_bytes_string hBa; rw [← hs1.out] at hv1; have hv2 := run_bytes_string hB5; rw [← hs2.out] at hv2))
          | (with_reducible refine wpList_store_own2 rfl 26 (.tmp 2) (.tmp 104) rfl w.heap.size #[.int .i64 0, .int .i64 0, .int .i64 0, .int .u32 0, .int .u32 0, .slice none 0 0, .int .u64 0] rfl rfl 26 _ hr5 (by kernel_rfl) rfl (by simp [Value.oneCell']) w.heap.size w hb05 (Nat.le_refl _) ?_; intro w7 hg7 hb07 hz7 hk7)
          | (with_reducible refine wpList_load_blk rfl 26 (.tmp 4) rfl g rfl 26 (#[.int .i64 5, .int .i64 dd, .int .i64 td, .int .u32 0, q32 (X.setWidth 32), .slice Ab m cb, q64 Y]) _ hg5 Try.underlying26 rfl (by kernel_rfl) ?_)
          | (with_reducible refine wpList_store_own2 rfl 26 (.tmp 2) (.tmp 105) rfl w.heap.size (#[.int .i64 5, .int .i64 dd, .int .i64 td, .int .u32 0, q32 (X.setWidth 32), .slice Ab m cb, q64 Y]) rfl rfl 26 _ hr5 (by kernel_rfl) rfl (by simp [Value.oneCell', q32, q64]) w.heap.size w hb05 (Nat.le_refl _) ?_; intro w7 hg7 hb07 hz7 hk7))
        )
      have hc7 := hg7.cell
      refine bodyPost_ret (v := .tuple #[.agg #[.int .i64 0, .int .i64 0, .int .i64 0, .int .u32 0, .int .u32 0, .slice none 0 0, .int .u64 0], .int .i64 8]) (by simp [results, Try.results17, go_sem, hc7]) rfl ⟨_, by rw [her'.out], by rw [hq'.out]; exact ⟨none, 0, rfl, Bytes.nil _⟩, hb07⟩
set_option maxHeartbeats 4000000 in
theorem rdec_6b (b off c : Nat) (bs : List UInt8) (w : World) (hB : Bytes w (some ⟨b, off, none⟩) c bs) (hlen : bs.length ≤ 2000) (h1 : 1 ≤ bs.length) (hk0 : ((nth bs 0).toNat : Int) / 2 = 6) (hlong : 16 < bs.length) :
    Calls Try.prog 17 #[.slice (some ⟨b, off, none⟩) bs.length c] w fun e w' => ∃ v, e = .returned (.tuple #[v, .int .i64 (if (decR bs).isSome then 0 else 8)]) ∧ IsPduB ((decR bs).getD P7.none_) v w' ∧ Below w.heap.size w w' := by
  have hl : ¬ ((bs.length : Int) < 1) := by omega
  obtain ⟨b', off', e0, hblt, hb0⟩ := hB.at_ (k := 0) (by omega)
  simp only [Option.some.injEq, Addr.mk.injEq, and_true] at e0
  obtain ⟨rfl, rfl⟩ := e0
  rw [Nat.add_zero] at hb0
  obtain ⟨er, her⟩ : ∃ er : Int, er = if (decR bs).isSome then 0 else 8 := ⟨_, rfl⟩
  obtain ⟨q, hq⟩ : ∃ q, q = (decR bs).getD P7.none_ := ⟨_, rfl⟩
  rw [← her, ← hq]
  replace her := Lib.hid her
  replace hq := Lib.hid hq
  go_enter Try.func17, Try.ntmps17
  go_wp2_with fail
  obtain ⟨w1, hw1⟩ : ∃ w1, w1 = w.alloc (.cells #[.int .i64 0, .int .i64 0, .int .i64 0, .int .u32 0, .int .u32 0, .slice none 0 0, .int .u64 0] 26) := ⟨_, rfl⟩
  rw [← hw1]
  have hg0 : Blk w1 w.heap.size 26 #[.int .i64 0, .int .i64 0, .int .i64 0, .int .u32 0, .int .u32 0, .slice none 0 0, .int .u64 0] := by rw [hw1]; exact Blk.new _ _ _
  have hb01 : Below w.heap.size w w1 := by rw [hw1]; exact (Below.refl _ _).alloc (Nat.le_refl _) _
  have hz1 : w1.heap.size = w.heap.size + 1 := by rw [hw1]; simp
  have hB1 := hB.below hb01
  have hb1 : w1.cell? ⟨b, off, none⟩ = some (q8 (nth bs 0)) := (hb01.cell (p := ⟨b, off, none⟩) hblt).trans hb0
  have hblt1 : b < w1.heap.size := by omega
  clear hw1
  have hcap := hB.cap
  have hmax := hB.max
  obtain ⟨T, hT⟩ : ∃ T, T = BitVec.ofNat 64 (getR bs 1 3) := ⟨_, rfl⟩
  have hT3 := getR3 bs
  rw [← hT] at hT3
  have hTlt : T.toNat < 9223372036854775808 := by omega
  have hn1 := fun W (h : Bytes W (some ⟨b, off, none⟩) c bs) => get_lit3 (some ⟨b, off, none⟩) c bs 1 W h (by omega) (by omega) (by omega)
  rw [← hT] at hn1
  obtain ⟨b0, hbb⟩ : ∃ b0, b0 = nth bs 0 := ⟨_, rfl⟩
  rw [← hbb] at hb1
  replace hT := Lib.hid hT
  replace hT3 := Lib.hid hT3
  replace hbb := Lib.hid hbb
  apply wp_region_lexl
  case hFl =>
    intro u
    simp only [List.map, fill, Act.put, List.setIfInBounds_toArray, List.set_cons_zero, List.set_cons_succ, Nat.reduceAdd, Nat.zero_add]
    rfl
  case hm => kernel_rfl
  case hB => kernel_rfl
  case hA => kernel_rfl
  case hap => kernel_rfl
  iterate 11 (
    apply LexL.is
    · (intro u w' hk hd
       simp [Waited, Region.binds, Is] at hd
       refine looked_want (by first | rfl | simp [Region.wanted, yielded, hd]) ?_
       intro K hK
       obtain ⟨hcR, _⟩ := bcell hk
       go_wp2_with (fail)
       try simp only [hd] at hK
       refine hK _ _ ?_ rfl
       first | exact Below.refl _ _ | exact hb3)
    )
  apply LexL.is
  · (intro u w' hk hd
     simp [Waited, Region.binds, Is] at hd
     refine looked_want (by first | rfl | simp [Region.wanted, yielded, hd]) ?_
     intro K hK
     obtain ⟨hcR, _⟩ := bcell hk
     go_wp2_with ((go_at_call 28; (with_reducible refine (hn1 _ (hB1.below hk)).mono ?_); rintro e wn ⟨rfl, rfl⟩))
     try simp only [hd] at hK
     refine hK _ _ ?_ rfl
     first | exact Below.refl _ _ | exact hb3)
  iterate 2 (
    apply LexL.is
    · (intro u w' hk hd
       simp [Waited, Region.binds, Is] at hd
       refine looked_want (by first | rfl | simp [Region.wanted, yielded, hd]) ?_
       intro K hK
       obtain ⟨hcR, _⟩ := bcell hk
       go_wp2_with (fail)
       try simp only [hd] at hK
       refine hK _ _ ?_ rfl
       first | exact Below.refl _ _ | exact hb3)
    )
  refine LexL.word (IsNew w1.heap.size) (fun _ _ _ h hb => h.grow hb) ?_ ?_
  · (intro u w' hk hd
     simp [Waited, Region.binds, Is] at hd
     refine looked_want (by first | rfl | simp [Region.wanted, yielded, hd]) ?_
     intro K hK
     obtain ⟨hcR, _⟩ := bcell hk
     skip
     go_wp2_with (fail)
     skip
     exact hK _ _ ((Below.refl _ _).alloc (Nat.le_refl _) _) ⟨_, rfl, hk.size, Blk.new _ _ _⟩)
  refine LexL.last ?_
  intro u w2 hk hd
  simp only [List.nil_append, List.cons_append] at hd
  obtain ⟨g, hu, hgw, hgB⟩ := hd 14 _ rfl
  have hv := hd 13 _ rfl
  simp only [Is] at hv
  rw [show wrap64 ((b0.toNat : Int) / 2) = (b0.toNat : Int) / 2 from by have := b0.toNat_lt; unfold wrap64; omega] at hv
  clear hd
  refine ⟨rfl, ?_⟩
  intro K hK
  refine wp_store_row 26 (.tmp 4) (.tmp 25) rfl g #[.int .i64 ((b0.toNat : Int) / 2), .int .i64 ((b0.toNat : Int) % 2), .int .i64 T.toNat, .int .u32 0, .int .u32 0, .slice none 0 0, .int .u64 0] hu hv 26 _ hgB (by kernel_rfl) rfl (by simp [Value.oneCell']) (hK _ _ ?_)
  obtain ⟨w3, hw3⟩ : ∃ w3, w3 = w2.setRow g #[.int .i64 ((b0.toNat : Int) / 2), .int .i64 ((b0.toNat : Int) % 2), .int .i64 T.toNat, .int .u32 0, .int .u32 0, .slice none 0 0, .int .u64 0] := ⟨_, rfl⟩
  rw [← hw3]
  have hg3 : Blk w3 g 26 #[.int .i64 ((b0.toNat : Int) / 2), .int .i64 ((b0.toNat : Int) % 2), .int .i64 T.toNat, .int .u32 0, .int .u32 0, .slice none 0 0, .int .u64 0] := by rw [hw3]; exact hgB.row _
  have hb13 : Below w1.heap.size w1 w3 := by rw [hw3]; exact below_row hk hgw _
  clear hw3 hgB
  have hb03 : Below w.heap.size w w3 := hb01.trans (hb13.mono (by omega))
  have hr3 := hg0.below hb13 (by omega)
  have hB3 := hB.below hb03
  obtain ⟨X, hX⟩ : ∃ X, X = BitVec.ofNat 64 (getR bs 4 4) := ⟨_, rfl⟩
  have hn2 := fun W (h : Bytes W (some ⟨b, off, none⟩) c bs) => get_lit4 (some ⟨b, off, none⟩) c bs 4 W h (by omega) (by omega) (by omega)
  rw [← hX] at hn2
  replace hX := Lib.hid hX
  obtain ⟨Z, hZ⟩ : ∃ Z, Z = BitVec.ofNat 64 (getR bs 8 4) := ⟨_, rfl⟩
  have hn3 := fun W (h : Bytes W (some ⟨b, off, none⟩) c bs) => get_lit4 (some ⟨b, off, none⟩) c bs 8 W h (by omega) (by omega) (by omega)
  rw [← hZ] at hn3
  replace hZ := Lib.hid hZ
  obtain ⟨Y, hY⟩ : ∃ Y, Y = BitVec.ofNat 64 (getR bs ((bs.length : Int) - 8) 8) := ⟨_, rfl⟩
  have hn4 := fun W (h : Bytes W (some ⟨b, off, none⟩) c bs) => get_lit8 (some ⟨b, off, none⟩) c bs ((bs.length : Int) - 8) W h (by omega) (by omega) (by omega)
  rw [← hY] at hn4
  replace hY := Lib.hid hY
  have hgn : w.heap.size < g := by omega
  have S3 : DecSt w w3 g _ := ⟨hg3, hr3, hb03, hgn⟩
  clear hn1 hb0 hb1 hv hTlt hblt1
  generalize hKd : (b0.toNat : Int) / 2 = kd at *
  generalize hDd : (b0.toNat : Int) % 2 = dd at *
  generalize hTd : (T.toNat : Int) = td at *
  have hcd := candR_of bs h1 b0 hbb.out T X Y Z hT3.out.1 hX.out hY.out hZ.out kd dd td hKd hDd hTd
  replace hcd := Lib.hid hcd
  replace hKd := Lib.hid hKd
  replace hDd := Lib.hid hDd
  replace hTd := Lib.hid hTd
  have hc3 := hg3.cell
  have hf3 := hg3.frozen
  have hk5 : kd = 6 := by rw [← hKd.out, hbb.out]; exact hk0
  have hbody : bodyR bs 8 = (bs.drop 8).take (bs.length - 8 - 8) := by unfold bodyR; rw [if_pos (by omega)]
  replace hcd := Lib.hid (hcd.out.trans (if_neg (by omega)))
  replace hcd := Lib.hid (hcd.out.trans (if_neg (by omega)))
  replace hcd := Lib.hid (hcd.out.trans (if_neg (by omega)))
  replace hcd := Lib.hid (hcd.out.trans (if_pos hk5))
  subst hk5
  have hcand := hcd.out
  rw [hbody] at hcand
  clear hbody
  obtain ⟨m, hm0⟩ : ∃ m, m = bs.length - 8 - 8 := ⟨_, rfl⟩
  rw [← hm0] at hcand
  obtain ⟨A9, hA9⟩ : ∃ A9, A9 = cutA (some ⟨b, off, none⟩) 8 c := ⟨_, rfl⟩
  obtain ⟨c9, hc9⟩ : ∃ c9, c9 = c - 8 := ⟨_, rfl⟩
  have hs9 : ∀ W, (Instr.slice 23 (.slice (some ⟨b, off, none⟩) bs.length c) (some (.int .i64 8)) (some (.int .i64 ((bs.length : Int) - 8))) none).run Try.prog W = .ok (.slice A9 m c9) W := fun W => by
    rw [slice_bytes_lh _ _ _ _ _ _ _ _ (by omega) (by omega) (by omega), hA9, hc9, hm0, show ((bs.length : Int) - 8).toNat = bs.length - 8 by omega]
    rfl
  have hB9 := fun W (h : Bytes W (some ⟨b, off, none⟩) c bs) => h.cutA 8 m (by omega)
  rw [← hA9, ← hc9] at hB9
  have hlm : ((bs.drop 8).take m).length = m := by simp; omega
  have hm2 : m ≤ 2000 := by omega
  generalize (bs.drop 8).take m = sub at hcand hB9 hlm
  replace hm0 := Lib.hid hm0
  replace hA9 := Lib.hid hA9
  replace hc9 := Lib.hid hc9
  have hgt : 8 < (bs.length : Int) - 8 := by omega
  go_wp2_with (first
    | (go_at_call 28; (with_reducible refine (hn2 _ hB3).mono ?_); rintro e wn ⟨rfl, rfl⟩)
    | (go_at_call 28; (with_reducible refine (hn4 _ ((S3.set 4 _).bytes hB)).mono ?_); rintro e wn ⟨rfl, rfl⟩))
  have S6 : DecSt w _ g #[.int .i64 6, .int .i64 dd, .int .i64 td, .int .u32 0, q32 (X.setWidth 32), .slice none 0 0, q64 Y] := (S3.set 4 (q32 (X.setWidth 32))).set 6 (q64 Y)
  have hz6 := Nat.lt_of_lt_of_le hgn (Nat.le_of_lt S6.pdu.lt)
  have hB6 := S6.bytes hB
  generalize hw6 : World.setCell (World.setCell _ _ _) ⟨g, 6, none⟩ (q64 Y) = w6 at S6 hB6
  try rw [hw6]
  clear hw6 hc3 hf3
  have hc3 := S6.pdu.cell
  have hf3 := S6.pdu.frozen
  have hlt6 : g < w6.heap.size := S6.pdu.lt
  apply wp_region_lexl
  case hFl =>
    intro u
    simp only [List.map, fill, Act.put, List.setIfInBounds_toArray, List.set_cons_zero, List.set_cons_succ, Nat.reduceAdd, Nat.zero_add]
    rfl
  case hm => kernel_rfl
  case hB => kernel_rfl
  case hA => kernel_rfl
  case hap => kernel_rfl
  iterate 5 (
    apply LexL.is
    · (intro u w' hk hd
       simp [Waited, Region.binds, Is] at hd
       refine looked_want (by first | rfl | simp [Region.wanted, yielded, hd]) ?_
       intro K hK
       obtain ⟨hcR, _⟩ := bcell hk
       go_wp2_with (fail)
       try simp only [hd] at hK
       refine hK _ _ ?_ rfl
       first | exact Below.refl _ _ | exact hb3)
    )
  refine LexL.word (NewBytes w6.heap.size sub) (fun _ _ _ h hb => h.grow hb) ?_ ?_
  · (intro u w' hk hd
     simp [Waited, Region.binds, Is] at hd
     obtain ⟨hd1, hd2⟩ := hd
     refine looked_want (by first | rfl | simp [Region.wanted, yielded]) ?_
     intro K hK
     refine wp_app_new (.tmp 84) (.tmp 87) rfl hd1 A9 c9 sub m hd2 hlm.symm (hB9 _ (hB6.below hk)) (by omega) ?_
     intro A3 c3 W ho hb
     refine hK _ _ hb ?_
     rw [← hlm]
     exact ho.new.mono hk.size)
  apply LexL.is
  · (intro u w' hk hd
     simp [Waited, Region.binds, Is] at hd
     refine looked_want (by first | rfl | simp [Region.wanted, yielded, hd]) ?_
     intro K hK
     obtain ⟨hcR, _⟩ := bcell hk
     go_wp2_with (fail)
     try simp only [hd] at hK
     refine hK _ _ ?_ rfl
     first | exact Below.refl _ _ | exact hb3)
  refine LexL.last ?_
  intro u8 w8 hk8 hd
  simp only [List.nil_append, List.cons_append] at hd
  have hu6 := hd 6 _ rfl
  have hnew := hd 5 _ rfl
  simp only [Is] at hu6
  clear hd hc3 hf3
  obtain ⟨Ab, cb, hu5, hBb, hfr⟩ := id hnew
  rw [hlm] at hu5
  replace hnew := hnew.mono (base' := g + 1) hlt6
  have S4 := S6.grow hk8
  have hc3 := S4.pdu.cell
  have hf3 := S4.pdu.frozen
  have hv5 := hnew.setCell (p := ⟨g, 5, none⟩) (by show g < _; omega) (.slice Ab m cb)
  rw [hu5] at hv5
  clear hBb hfr hnew
  obtain ⟨Ab', cb', ev, hBb, _⟩ := id hv5
  simp only [Value.slice.injEq] at ev
  obtain ⟨rfl, hx, rfl⟩ := ev
  clear hx
  have henc : ∀ W Ab cb, Bytes W Ab cb sub → Calls Try.prog 11 #[.agg #[.int .i64 6, .int .i64 dd, .int .i64 td, .int .u32 0, q32 (X.setWidth 32), .slice Ab m cb, q64 Y]] W fun e w' => ∃ v, e = .returned (.tuple #[v, .int .i64 (if may ⟨6, dd, td, 0, X.setWidth 32, sub, Y⟩ then 0 else 1)]) ∧ IsBytes (enc ⟨6, dd, td, 0, X.setWidth 32, sub, Y⟩) v w' ∧ Below W.heap.size W w' :=
    fun W Ab cb h => prenc_k ⟨6, dd, td, 0, X.setWidth 32, sub, Y⟩ Ab m cb W hlm h (by show sub.length ≤ _; omega)
  generalize hp : (⟨6, dd, td, 0, X.setWidth 32, sub, Y⟩ : P7) = p at hcand henc
  replace hp := Lib.hid hp
  refine ⟨rfl, ?_⟩
  intro K2 hK2
  obtain ⟨s1, hs1⟩ : ∃ s1, s1 = strOf (enc p) := ⟨_, rfl⟩
  obtain ⟨s2, hs2⟩ : ∃ s2, s2 = strOf bs := ⟨_, rfl⟩
  have hse0 : s1.toList = s2.toList ↔ enc p = bs := by rw [hs1, hs2]; exact strOf_eq _ _
  replace hs1 := Lib.hid hs1
  replace hs2 := Lib.hid hs2
  replace hse0 := Lib.hid hse0
  cases hm : may p with
  | false =>
    have hdec : decR bs = none := by simp [decR, hcand, hm]
    have her' := her.out
    have hq' := hq.out
    rw [hdec] at her' hq'
    replace her' : er = 8 := her'
    replace hq' : q = P7.none_ := hq'
    replace her' := Lib.hid her'
    replace hq' := Lib.hid hq'
    simp only [hm, Bool.false_eq_true, if_false] at henc
    go_wp2_with (
      (first
        | (go_at_call 28; (with_reducible refine (hn2 _ hB3).mono ?_); rintro e wn ⟨rfl, rfl⟩)
        | (fail)
        | (go_at_call 11; go_loud (with_reducible refine (henc _ _ _ hBb).mono ?_); rintro e w5 ⟨va, rfl, ⟨Aa, ca, rfl, hBa⟩, hb5⟩; go_loud (have S5 : DecSt w w5 g (#[.int .i64 6, .int .i64 dd, .int .i64 td, .int .u32 0, q32 (X.setWidth 32), .slice Ab m cb, q64 Y]) := DecSt.grow (S4.set 5 _) hb5; have hg5 := S5.pdu; have hb05 := S5.below; have hr5 := S5.res; have hB5 := hB.below hb05; clear hc3 hf3; have hv1 := run_bytes_string hBa; rw [← hs1.out] at hv1; have hv2 := run_bytes_string hB5; rw [← hs2.out] at hv2))
        | (with_reducible refine wpList_store_own2 rfl 26 (.tmp 2) (.tmp 104) rfl w.heap.size #[.int .i64 0, .int .i64 0, .int .i64 0, .int .u32 0, .int .u32 0, .slice none 0 0, .int .u64 0] rfl rfl 26 _ hr5 (by kernel_rfl) rfl (by simp [Value.oneCell']) w.heap.size w hb05 (Nat.le_refl _) ?_; intro w7 hg7 hb07 hz7 hk7)
        | (with_reducible refine wpList_load_blk rfl 26 (.tmp 4) rfl g rfl 26 (#[.int .i64 6, .int .i64 dd, .int .i64 td, .int .u32 0, q32 (X.setWidth 32), .slice Ab m cb, q64 Y]) _ hg5 Try.underlying26 rfl (by kernel_rfl) ?_)
        | (with_reducible refine wpList_store_own2 rfl 26 (.tmp 2) (.tmp 105) rfl w.heap.size (#[.int .i64 6, .int .i64 dd, .int .i64 td, .int .u32 0, q32 (X.setWidth 32), .slice Ab m cb, q64 Y]) rfl rfl 26 _ hr5 (by kernel_rfl) rfl (by simp [Value.oneCell', q32, q64]) w.heap.size w hb05 (Nat.le_refl _) ?_; intro w7 hg7 hb07 hz7 hk7))
      )
    have hc7 := hg7.cell
    refine bodyPost_ret (v := .tuple #[.agg #[.int .i64 0, .int .i64 0, .int .i64 0, .int .u32 0, .int .u32 0, .slice none 0 0, .int .u64 0], .int .i64 8]) (by simp [results, Try.results17, go_sem, hc7]) rfl ⟨_, by rw [her'.out], by rw [hq'.out]; exact ⟨none, 0, rfl, Bytes.nil _⟩, hb07⟩
  | true =>
    simp only [hm, if_true] at henc
    by_cases heq : enc p = bs
    · have hdec : decR bs = some p := by simp [decR, hcand, hm, heq]
      have her' := her.out
      have hq' := hq.out
      rw [hdec] at her' hq'
      replace her' : er = 0 := her'
      replace hq' : q = p := hq'
      replace her' := Lib.hid her'
      replace hq' := Lib.hid hq'
      have hse := hse0.out.2 heq
      replace heq := Lib.hid heq
      go_wp2_with (
        (first
          | (go_at_call 28; (with_reducible refine (hn2 _ hB3).mono ?_); rintro e wn ⟨rfl, rfl⟩)
          | (fail)
          | (go_at_call 11; go_loud (with_reducible refine (henc _ _ _ hBb).mono ?_); rintro e w5 ⟨va, rfl, ⟨Aa, ca, rfl, hBa⟩, hb5⟩; go_loud (have S5 : DecSt w w5 g (#[.int .i64 6, .int .i64 dd, .int .i64 td, .int .u32 0, q32 (X.setWidth 32), .slice Ab m cb, q64 Y]) := DecSt.grow (S4.set 5 _) hb5; have hg5 := S5.pdu; have hb05 := S5.below; have hr5 := S5.res; have hB5 := hB.below hb05; clear hc3 hf3; have hv1 := run_bytes_string hBa; rw [← hs1.out] at hv1; have hv2 := run_bytes_string hB5; rw [← hs2.out] at hv2))
          | (with_reducible refine wpList_store_own2 rfl 26 (.tmp 2) (.tmp 104) rfl w.heap.size #[.int .i64 0, .int .i64 0, .int .i64 0, .int .u32 0, .int .u32 0, .slice none 0 0, .int .u64 0] rfl rfl 26 _ hr5 (by kernel_rfl) rfl (by simp [Value.oneCell']) w.heap.size w hb05 (Nat.le_refl _) ?_; intro w7 hg7 hb07 hz7 hk7)
          | (with_reducible refine wpList_load_blk rfl 26 (.tmp 4) rfl g rfl 26 (#[.int .i64 6, .int .i64 dd, .int .i64 td, .int .u32 0, q32 (X.setWidth 32), .slice Ab m cb, q64 Y]) _ hg5 Try.underlying26 rfl (by kernel_rfl) ?_)
          | (with_reducible refine wpList_store_own2 rfl 26 (.tmp 2) (.tmp 105) rfl w.heap.size (#[.int .i64 6, .int .i64 dd, .int .i64 td, .int .u32 0, q32 (X.setWidth 32), .slice Ab m cb, q64 Y]) rfl rfl 26 _ hr5 (by kernel_rfl) rfl (by simp [Value.oneCell', q32, q64]) w.heap.size w hb05 (Nat.le_refl _) ?_; intro w7 hg7 hb07 hz7 hk7))
        )
      have hc7 := hg7.cell
      refine bodyPost_ret (v := .tuple #[.agg #[.int .i64 6, .int .i64 dd, .int .i64 td, .int .u32 0, q32 (X.setWidth 32), .slice Ab m cb, q64 Y], .int .i64 0]) (by simp [results, Try.results17, go_sem, hc7]) rfl ⟨_, by rw [her'.out], by rw [hq'.out]; ((rw [← hp.out]; exact ⟨Ab, cb, by simp only [hlm]; rfl, (NewBytes.is_at ((hv5.grow hb5).kept (by omega) fun k hk _ => hk7 k (by omega)) hlm)⟩)), hb07⟩
    · have hdec : decR bs = none := by simp [decR, hcand, hm, heq]
      have her' := her.out
      have hq' := hq.out
      rw [hdec] at her' hq'
      replace her' : er = 8 := her'
      replace hq' : q = P7.none_ := hq'
      replace her' := Lib.hid her'
      replace hq' := Lib.hid hq'
      have hse : (s1.toList == s2.toList) = false := beq_eq_false_iff_ne.2 fun h => heq (hse0.out.1 h)
      replace heq := Lib.hid heq
      go_wp2_with (
        (first
          | (go_at_call 28; (with_reducible refine (hn2 _ hB3).mono ?_); rintro e wn ⟨rfl, rfl⟩)
          | (fail)
          | (go_at_call 11; go_loud (with_reducible refine (henc _ _ _ hBb).mono ?_); rintro e w5 ⟨va, rfl, ⟨Aa, ca, rfl, hBa⟩, hb5⟩; go_loud (have S5 : DecSt w w5 g (#[.int .i64 6, .int .i64 dd, .int .i64 td, .int .u32 0, q32 (X.setWidth 32), .slice Ab m cb, q64 Y]) := DecSt.grow (S4.set 5 _) hb5; have hg5 := S5.pdu; have hb05 := S5.below; have hr5 := S5.res; have hB5 := hB.below hb05; clear hc3 hf3; have hv1 := run_bytes_string hBa; rw [← hs1.out] at hv1; have hv2 := run_bytes_string hB5; rw [← hs2.out] at hv2))
          | (with_reducible refine wpList_store_own2 rfl 26 (.tmp 2) (.tmp 104) rfl w.heap.size #[.int .i64 0, .int .i64 0, .int .i64 0, .int .u32 0, .int .u32 0, .slice none 0 0, .int .u64 0] rfl rfl 26 _ hr5 (by kernel_rfl) rfl (by simp [Value.oneCell']) w.heap.size w hb05 (Nat.le_refl _) ?_; intro w7 hg7 hb07 hz7 hk7)
          | (with_reducible refine wpList_load_blk rfl 26 (.tmp 4) rfl g rfl 26 (#[.int .i64 6, .int .i64 dd, .int .i64 td, .int .u32 0, q32 (X.setWidth 32), .slice Ab m cb, q64 Y]) _ hg5 Try.underlying26 rfl (by kernel_rfl) ?_)
          | (with_reducible refine wpList_store_own2 rfl 26 (.tmp 2) (.tmp 105) rfl w.heap.size (#[.int .i64 6, .int .i64 dd, .int .i64 td, .int .u32 0, q32 (X.setWidth 32), .slice Ab m cb, q64 Y]) rfl rfl 26 _ hr5 (by kernel_rfl) rfl (by simp [Value.oneCell', q32, q64]) w.heap.size w hb05 (Nat.le_refl _) ?_; intro w7 hg7 hb07 hz7 hk7))
        )
      have hc7 := hg7.cell
      refine bodyPost_ret (v := .tuple #[.agg #[.int .i64 0, .int .i64 0, .int .i64 0, .int .u32 0, .int .u32 0, .slice none 0 0, .int .u64 0], .int .i64 8]) (by simp [results, Try.results17, go_sem, hc7]) rfl ⟨_, by rw [her'.out], by rw [hq'.out]; exact ⟨none, 0, rfl, Bytes.nil _⟩, hb07⟩
end Go.Proofs.Ytchjcfbhpgigjaa
