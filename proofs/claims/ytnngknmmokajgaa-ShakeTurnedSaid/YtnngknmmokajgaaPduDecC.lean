/- What the program takes bytes for: any other kind. -/
import Derived.Test.YtnngknmmokajgaaPduDec
set_option linter.unusedSimpArgs false
set_option linter.unusedVariables false
namespace Go.Proofs.Ytnngknmmokajgaa
open Go.RowKit Go.Shelf
attribute [local go_sem high] conv_64_i64
set_option maxHeartbeats 4000000 in
theorem dec_o (b off c : Nat) (bs : List UInt8) (w : World) (hB : Bytes w (some ⟨b, off, none⟩) c bs) (hlen : bs.length ≤ 2000) (h8 : 8 ≤ bs.length) (hk0 : ((nth bs 0).toNat : Int) / 2 ≠ 1) (hk02 : ((nth bs 0).toNat : Int) / 2 ≠ 2) (hk03 : ((nth bs 0).toNat : Int) / 2 ≠ 3) (hk05 : ((nth bs 0).toNat : Int) / 2 ≠ 5) (hk06 : ((nth bs 0).toNat : Int) / 2 ≠ 6) (h16 : 16 ≤ bs.length) :
    Calls Try.prog 48 #[.slice (some ⟨b, off, none⟩) bs.length c] w fun e w' => ∃ v, e = .returned (.tuple #[v, .int .i64 (if (decI bs).isSome then 0 else 8)]) ∧ IsPdu w.heap.size ((decI bs).getD P7.none_) v w' ∧ Below w.heap.size w w' := by
  have hl : ¬ ((bs.length : Int) < 8) := by omega
  obtain ⟨b', off', e0, hblt, hb0⟩ := hB.at_ (k := 0) (by omega)
  simp only [Option.some.injEq, Addr.mk.injEq, and_true] at e0
  obtain ⟨rfl, rfl⟩ := e0
  rw [Nat.add_zero] at hb0
  obtain ⟨er, her⟩ : ∃ er : Int, er = if (decI bs).isSome then 0 else 8 := ⟨_, rfl⟩
  obtain ⟨q, hq⟩ : ∃ q, q = (decI bs).getD P7.none_ := ⟨_, rfl⟩
  rw [← her, ← hq]
  replace her := Lib.hid her
  replace hq := Lib.hid hq
  go_enter Try.func48, Try.ntmps48
  go_wp2_with fail
  obtain ⟨w1, hw1⟩ : ∃ w1, w1 = w.alloc (.cells #[.int .i64 0, .int .i64 0, .int .i64 0, .int .u32 0, .int .u32 0, .slice none 0 0, .int .u64 0] 30) := ⟨_, rfl⟩
  rw [← hw1]
  have hg0 : Blk w1 w.heap.size 30 #[.int .i64 0, .int .i64 0, .int .i64 0, .int .u32 0, .int .u32 0, .slice none 0 0, .int .u64 0] := by rw [hw1]; exact Blk.new _ _ _
  have hb01 : Below w.heap.size w w1 := by rw [hw1]; exact (Below.refl _ _).alloc (Nat.le_refl _) _
  have hz1 : w1.heap.size = w.heap.size + 1 := by rw [hw1]; simp
  have hB1 := hB.below hb01
  have hb1 : w1.cell? ⟨b, off, none⟩ = some (q8 (nth bs 0)) := (hb01.cell (p := ⟨b, off, none⟩) hblt).trans hb0
  have hblt1 : b < w1.heap.size := by omega
  clear hw1
  have hcap := hB.cap
  have hmax := hB.max
  obtain ⟨T, hT⟩ : ∃ T, T = BitVec.ofNat 64 (num ((bs.drop 1).take 3)) := ⟨_, rfl⟩
  have hT3 := num3 ((bs.drop 1).take 3) (by simp; omega)
  rw [← hT] at hT3
  have hTlt : T.toNat < 9223372036854775808 := by omega
  have hn1 := fun W (h : Bytes W (some ⟨b, off, none⟩) c bs) => number_k _ 3 (c - 1) _ W (by simp; omega) (h.cut 1 3 (by omega) (by omega)) (by simp; omega)
  rw [← hT] at hn1
  obtain ⟨b0, hbb⟩ : ∃ b0, b0 = nth bs 0 := ⟨_, rfl⟩
  rw [← hbb] at hb1
  replace hT := Lib.hid hT
  replace hT3 := Lib.hid hT3
  replace hbb := Lib.hid hbb
  apply wp_region_lexl
  case hFl =>
    intro u
    simp only [List.map, fill, Act.put, List.setIfInBounds_toArray, List.set_cons_zero, List.set_cons_succ, Nat.reduceAdd, Nat.zero_add]
    rfl
  case hm => kernel_rfl
  case hB => kernel_rfl
  case hA => kernel_rfl
  case hap => kernel_rfl
  iterate 10 (
    apply LexL.is
    · (intro u w' hk hd
       simp [Waited, Region.binds, Is] at hd
       refine looked_want (by first | rfl | simp [Region.wanted, yielded, hd]) ?_
       intro K hK
       obtain ⟨hcR, _⟩ := bcell hk
       go_wp2_with (fail)
       try simp only [hd] at hK
       refine hK _ _ ?_ rfl
       first | exact Below.refl _ _ | exact hb3)
    )
  iterate 2 (
    apply LexL.is
    · (intro u w' hk hd
       simp [Waited, Region.binds, Is] at hd
       refine looked_want (by first | rfl | simp [Region.wanted, yielded, hd]) ?_
       intro K hK
       obtain ⟨hcR, _⟩ := bcell hk
       go_wp2_with (fail)
       try simp only [hd] at hK
       refine hK _ _ ?_ rfl
       first | exact Below.refl _ _ | exact hb3)
    )
  apply LexL.is
  · (intro u w' hk hd
     simp [Waited, Region.binds, Is] at hd
     refine looked_want (by first | rfl | simp [Region.wanted, yielded, hd]) ?_
     intro K hK
     obtain ⟨hcR, _⟩ := bcell hk
     go_wp2_with ((go_at_call 58; (with_reducible refine (hn1 _ (hB1.below hk)).mono ?_); rintro e wn ⟨rfl, rfl⟩))
     try simp only [hd] at hK
     refine hK _ _ ?_ rfl
     first | exact Below.refl _ _ | exact hb3)
  iterate 2 (
    apply LexL.is
    · (intro u w' hk hd
       simp [Waited, Region.binds, Is] at hd
       refine looked_want (by first | rfl | simp [Region.wanted, yielded, hd]) ?_
       intro K hK
       obtain ⟨hcR, _⟩ := bcell hk
       go_wp2_with (fail)
       try simp only [hd] at hK
       refine hK _ _ ?_ rfl
       first | exact Below.refl _ _ | exact hb3)
    )
  refine LexL.word (IsNew w1.heap.size) (fun _ _ _ h hb => h.grow hb) ?_ ?_
  · (intro u w' hk hd
     simp [Waited, Region.binds, Is] at hd
     refine looked_want (by first | rfl | simp [Region.wanted, yielded, hd]) ?_
     intro K hK
     obtain ⟨hcR, _⟩ := bcell hk
     skip
     go_wp2_with (fail)
     skip
     exact hK _ _ ((Below.refl _ _).alloc (Nat.le_refl _) _) ⟨_, rfl, hk.size, Blk.new _ _ _⟩)
  refine LexL.last ?_
  intro u w2 hk hd
  simp only [List.nil_append, List.cons_append] at hd
  obtain ⟨g, hu, hgw, hgB⟩ := hd 15 _ rfl
  have hv := hd 14 _ rfl
  simp only [Is] at hv
  clear hd
  refine ⟨rfl, ?_⟩
  intro K hK
  refine wp_store_row 30 (.tmp 4) (.tmp 27) rfl g #[.int .i64 ((b0.toNat : Int) / 2), .int .i64 ((b0.toNat : Int) % 2), .int .i64 T.toNat, .int .u32 0, .int .u32 0, .slice none 0 0, .int .u64 0] hu hv 30 _ hgB (by kernel_rfl) rfl (by simp [Value.oneCell']) (hK _ _ ?_)
  obtain ⟨w3, hw3⟩ : ∃ w3, w3 = w2.setRow g #[.int .i64 ((b0.toNat : Int) / 2), .int .i64 ((b0.toNat : Int) % 2), .int .i64 T.toNat, .int .u32 0, .int .u32 0, .slice none 0 0, .int .u64 0] := ⟨_, rfl⟩
  rw [← hw3]
  have hg3 : Blk w3 g 30 #[.int .i64 ((b0.toNat : Int) / 2), .int .i64 ((b0.toNat : Int) % 2), .int .i64 T.toNat, .int .u32 0, .int .u32 0, .slice none 0 0, .int .u64 0] := by rw [hw3]; exact hgB.row _
  have hb13 : Below w1.heap.size w1 w3 := by rw [hw3]; exact below_row hk hgw _
  clear hw3 hgB
  have hb03 : Below w.heap.size w w3 := hb01.trans (hb13.mono (by omega))
  have hr3 := hg0.below hb13 (by omega)
  have hB3 := hB.below hb03
  obtain ⟨X, hX⟩ : ∃ X, X = BitVec.ofNat 64 (num ((bs.drop 4).take 4)) := ⟨_, rfl⟩
  have hn2 := fun W (h : Bytes W (some ⟨b, off, none⟩) c bs) => number_k _ 4 (c - 4) _ W (by simp; omega) (h.cut 4 4 (by omega) (by omega)) (by simp; omega)
  rw [← hX] at hn2
  replace hX := Lib.hid hX
  have hgn : w.heap.size < g := by omega
  have S3 : DecSt w w3 g _ := ⟨hg3, hr3, hb03, hgn⟩
  clear hn1 hb0 hb1 hv hTlt hblt1
  generalize hKd : (b0.toNat : Int) / 2 = kd at *
  generalize hDd : (b0.toNat : Int) % 2 = dd at *
  generalize hTd : (T.toNat : Int) = td at *
  have hcd := candI_of bs h8 b0 hbb.out T X hT3.out.1 hX.out kd dd td hKd hDd hTd
  replace hcd := Lib.hid hcd
  replace hKd := Lib.hid hKd
  replace hDd := Lib.hid hDd
  replace hTd := Lib.hid hTd
  obtain ⟨R, hR⟩ : ∃ R, R = cutA (some ⟨b, off, none⟩) 8 c := ⟨_, rfl⟩
  obtain ⟨n8, hn8⟩ : ∃ n8, n8 + 8 = bs.length := ⟨bs.length - 8, by omega⟩
  have hs8 : ∀ W, (Instr.slice 27 (.slice (some ⟨b, off, none⟩) bs.length c) (some (.int .i64 8)) none none).run Try.prog W = .ok (.slice R n8 (c - 8)) W := fun W => by
    rw [slice_bytes_l _ _ _ _ _ _ (by omega) (by omega), hR, ← hn8]
    simp
  have hBR := fun W (h : Bytes W (some ⟨b, off, none⟩) c bs) => h.cutFrom 8 h8
  rw [← hR] at hBR
  replace hR := Lib.hid hR
  have hk1 : kd ≠ 1 := by rw [← hKd.out, hbb.out]; exact hk0
  have hk2 : kd ≠ 2 := by rw [← hKd.out, hbb.out]; exact hk02
  have hk3 : kd ≠ 3 := by rw [← hKd.out, hbb.out]; exact hk03
  have hk5 : kd ≠ 5 := by rw [← hKd.out, hbb.out]; exact hk05
  have hk6 : kd ≠ 6 := by rw [← hKd.out, hbb.out]; exact hk06
  replace hcd := Lib.hid (hcd.out.trans (if_neg hk1))
  have hn8' : (bs.drop 8).length = n8 := by simp; omega
  have hc3 := hg3.cell
  have hf3 := hg3.frozen
  replace hcd := Lib.hid (hcd.out.trans (if_neg (by rw [hn8']; omega)))
  rw [hn8'] at hcd
  have hsi : ¬ ((n8 : Int) < 8) := by omega
  obtain ⟨n0, hn0⟩ : ∃ n0, n0 + 8 = n8 := ⟨n8 - 8, by omega⟩
  obtain ⟨Y, hY⟩ : ∃ Y, Y = BitVec.ofNat 64 (num ((bs.drop 8).drop (n8 - 8))) := ⟨_, rfl⟩
  rw [← hY] at hcd
  obtain ⟨M, hM⟩ : ∃ M, M = cutA R (n8 - 8) (c - 8) := ⟨_, rfl⟩
  obtain ⟨cM, hcM⟩ : ∃ cM, cM = c - 8 - (n8 - 8) := ⟨_, rfl⟩
  have hs9 : ∀ W, (Instr.slice 27 (.slice R n8 (c - 8)) (some (.int .i64 ((n8 : Int) - 8))) none none).run Try.prog W = .ok (.slice M 8 cM) W := fun W => by
    rw [slice_bytes_l _ _ _ _ _ _ (by omega) (by omega), show ((n8 : Int) - 8).toNat = n8 - 8 by omega, ← hM, ← hcM, show n8 - (n8 - 8) = 8 by omega]
  have hs10 : ∀ W, (Instr.slice 27 (.slice R n8 (c - 8)) none (some (.int .i64 ((n8 : Int) - 8))) none).run Try.prog W = .ok (.slice R n0 (c - 8)) W := fun W => by
    rw [slice_bytes_h _ _ _ _ _ _ (by omega) (by omega), show ((n8 : Int) - 8).toNat = n0 by omega]
  have hn3 := fun W (h : Bytes W (some ⟨b, off, none⟩) c bs) => number_k M 8 cM ((bs.drop 8).drop (n8 - 8)) W (by simp; omega) (by rw [hM, hcM]; exact (hBR W h).cutFrom (n8 - 8) (by omega)) (by simp; omega)
  rw [← hY] at hn3
  have hBr := fun W (h : Bytes W (some ⟨b, off, none⟩) c bs) => (hBR W h).cutTo (n8 - 8) (by omega)
  have hlr : ((bs.drop 8).take (n8 - 8)).length = n0 := by simp; omega
  replace hM := Lib.hid hM
  replace hcM := Lib.hid hcM
  replace hY := Lib.hid hY
  generalize hr : (bs.drop 8).take (n8 - 8) = r at hcd hBr hlr
  replace hr := Lib.hid hr
  rw [hlr] at hcd
  replace hcd := Lib.hid (hcd.out.trans (if_neg (by omega)))
  replace hcd := Lib.hid (hcd.out.trans (if_neg (by omega)))
  have hcand := hcd.out.trans (if_neg hk6)
  have henc : ∀ W, Calls Try.prog 47 #[.agg #[.int .i64 kd, .int .i64 dd, .int .i64 td, .int .u32 0, .int .u32 0, .slice none 0 0, q64 Y]] W fun e w' => ∃ v, e = .returned (.tuple #[v, .int .i64 (if may ⟨kd, dd, td, 0, 0, [], Y⟩ then 0 else 1)]) ∧ NewBytes W.heap.size (enc ⟨kd, dd, td, 0, 0, [], Y⟩) v w' ∧ Below W.heap.size W w' :=
    fun W => penc_k ⟨kd, dd, td, 0, 0, [], Y⟩ none 0 0 W rfl (Bytes.nil _) (by simp)
  generalize hp : (⟨kd, dd, td, 0, 0, [], Y⟩ : P7) = p at hcand henc
  replace hp := Lib.hid hp
  have hc3 := hg3.cell
  have hf3 := hg3.frozen
  cases hm : may p with
  | false =>
    have hdec : decI bs = none := by simp [decI, hcand, hm]
    have her' := her.out
    have hq' := hq.out
    rw [hdec] at her' hq'
    replace her' : er = 8 := her'
    replace hq' : q = P7.none_ := hq'
    replace her' := Lib.hid her'
    replace hq' := Lib.hid hq'
    simp only [hm, Bool.false_eq_true, if_false] at henc
    go_wp2_with (
      (first
        | (go_at_call 58; (with_reducible refine (hn2 _ hB3).mono ?_); rintro e wn ⟨rfl, rfl⟩)
        | ((go_at_call 58; (with_reducible refine (hn3 _ hB3).mono ?_); rintro e wn ⟨rfl, rfl⟩))
        | (go_at_call 47; go_loud (with_reducible refine (henc _).mono ?_); rintro e w5 ⟨va, rfl, ⟨Aa, ca, rfl, hBa, _⟩, hb5⟩; go_loud (have S5 : DecSt w w5 g (#[.int .i64 kd, .int .i64 dd, .int .i64 td, .int .u32 0, .int .u32 0, .slice none 0 0, q64 Y]) := DecSt.grow (S3.set 6 _) hb5; have hg5 := S5.pdu; have hb05 := S5.below; have hr5 := S5.res; have hB5 := hB.below hb05; clear hc3 hf3))
        | (go_at_call 59; (with_reducible refine (heqc _ _ _ hBa hB5).mono ?_); rintro e w6 ⟨rfl, rfl⟩)
        | (with_reducible refine wpList_store_own2 rfl 30 (.tmp 2) (.tmp 105) rfl w.heap.size #[.int .i64 0, .int .i64 0, .int .i64 0, .int .u32 0, .int .u32 0, .slice none 0 0, .int .u64 0] rfl rfl 30 _ hr5 (by kernel_rfl) rfl (by simp [Value.oneCell']) w.heap.size w hb05 (Nat.le_refl _) ?_; intro w7 hg7 hb07 hz7 hk7)
        | (with_reducible refine wpList_load_blk rfl 30 (.tmp 4) rfl g rfl 30 (#[.int .i64 kd, .int .i64 dd, .int .i64 td, .int .u32 0, .int .u32 0, .slice none 0 0, q64 Y]) _ hg5 Try.underlying30 rfl (by kernel_rfl) ?_)
        | (with_reducible refine wpList_store_own2 rfl 30 (.tmp 2) (.tmp 106) rfl w.heap.size (#[.int .i64 kd, .int .i64 dd, .int .i64 td, .int .u32 0, .int .u32 0, .slice none 0 0, q64 Y]) rfl rfl 30 _ hr5 (by kernel_rfl) rfl (by simp [Value.oneCell', q32, q64]) w.heap.size w hb05 (Nat.le_refl _) ?_; intro w7 hg7 hb07 hz7 hk7))
      )
    have hc7 := hg7.cell
    refine bodyPost_ret (v := .tuple #[.agg #[.int .i64 0, .int .i64 0, .int .i64 0, .int .u32 0, .int .u32 0, .slice none 0 0, .int .u64 0], .int .i64 8]) (by simp [results, Try.results48, go_sem, hc7]) rfl ⟨_, by rw [her'.out], by rw [hq'.out]; exact ⟨_, rfl, NewBytes.nil⟩, hb07⟩
  | true =>
    simp only [hm, if_true] at henc
    by_cases heq : enc p = bs
    · have hdec : decI bs = some p := by simp [decI, hcand, hm, heq]
      have her' := her.out
      have hq' := hq.out
      rw [hdec] at her' hq'
      replace her' : er = 0 := her'
      replace hq' : q = p := hq'
      replace her' := Lib.hid her'
      replace hq' := Lib.hid hq'
      have heqc : ∀ (W : World) Aa ca, Bytes W Aa ca (enc p) → Bytes W (some ⟨b, off, none⟩) c bs → Calls Try.prog 59 #[.slice Aa (enc p).length ca, .slice (some ⟨b, off, none⟩) bs.length c] W fun e w' => e = .returned (.bool true) ∧ w' = W := by
        intro W Aa ca h1 h2
        have := equal_any Aa _ ca (enc p) (some ⟨b, off, none⟩) bs.length c bs W rfl rfl h1 h2
        rwa [decide_eq_true heq] at this
      replace heq := Lib.hid heq
      go_wp2_with (
        (first
          | (go_at_call 58; (with_reducible refine (hn2 _ hB3).mono ?_); rintro e wn ⟨rfl, rfl⟩)
          | ((go_at_call 58; (with_reducible refine (hn3 _ hB3).mono ?_); rintro e wn ⟨rfl, rfl⟩))
          | (go_at_call 47; go_loud (with_reducible refine (henc _).mono ?_); rintro e w5 ⟨va, rfl, ⟨Aa, ca, rfl, hBa, _⟩, hb5⟩; go_loud (have S5 : DecSt w w5 g (#[.int .i64 kd, .int .i64 dd, .int .i64 td, .int .u32 0, .int .u32 0, .slice none 0 0, q64 Y]) := DecSt.grow (S3.set 6 _) hb5; have hg5 := S5.pdu; have hb05 := S5.below; have hr5 := S5.res; have hB5 := hB.below hb05; clear hc3 hf3))
          | (go_at_call 59; (with_reducible refine (heqc _ _ _ hBa hB5).mono ?_); rintro e w6 ⟨rfl, rfl⟩)
          | (with_reducible refine wpList_store_own2 rfl 30 (.tmp 2) (.tmp 105) rfl w.heap.size #[.int .i64 0, .int .i64 0, .int .i64 0, .int .u32 0, .int .u32 0, .slice none 0 0, .int .u64 0] rfl rfl 30 _ hr5 (by kernel_rfl) rfl (by simp [Value.oneCell']) w.heap.size w hb05 (Nat.le_refl _) ?_; intro w7 hg7 hb07 hz7 hk7)
          | (with_reducible refine wpList_load_blk rfl 30 (.tmp 4) rfl g rfl 30 (#[.int .i64 kd, .int .i64 dd, .int .i64 td, .int .u32 0, .int .u32 0, .slice none 0 0, q64 Y]) _ hg5 Try.underlying30 rfl (by kernel_rfl) ?_)
          | (with_reducible refine wpList_store_own2 rfl 30 (.tmp 2) (.tmp 106) rfl w.heap.size (#[.int .i64 kd, .int .i64 dd, .int .i64 td, .int .u32 0, .int .u32 0, .slice none 0 0, q64 Y]) rfl rfl 30 _ hr5 (by kernel_rfl) rfl (by simp [Value.oneCell', q32, q64]) w.heap.size w hb05 (Nat.le_refl _) ?_; intro w7 hg7 hb07 hz7 hk7))
        )
      have hc7 := hg7.cell
      refine bodyPost_ret (v := .tuple #[.agg #[.int .i64 kd, .int .i64 dd, .int .i64 td, .int .u32 0, .int .u32 0, .slice none 0 0, q64 Y], .int .i64 0]) (by simp [results, Try.results48, go_sem, hc7]) rfl ⟨_, by rw [her'.out], by rw [hq'.out]; ((rw [← hp.out]; exact ⟨_, rfl, NewBytes.nil⟩)), hb07⟩
    · have hdec : decI bs = none := by simp [decI, hcand, hm, heq]
      have her' := her.out
      have hq' := hq.out
      rw [hdec] at her' hq'
      replace her' : er = 8 := her'
      replace hq' : q = P7.none_ := hq'
      replace her' := Lib.hid her'
      replace hq' := Lib.hid hq'
      have heqc : ∀ (W : World) Aa ca, Bytes W Aa ca (enc p) → Bytes W (some ⟨b, off, none⟩) c bs → Calls Try.prog 59 #[.slice Aa (enc p).length ca, .slice (some ⟨b, off, none⟩) bs.length c] W fun e w' => e = .returned (.bool false) ∧ w' = W := by
        intro W Aa ca h1 h2
        have := equal_any Aa _ ca (enc p) (some ⟨b, off, none⟩) bs.length c bs W rfl rfl h1 h2
        rwa [decide_eq_false heq] at this
      replace heq := Lib.hid heq
      go_wp2_with (
        (first
          | (go_at_call 58; (with_reducible refine (hn2 _ hB3).mono ?_); rintro e wn ⟨rfl, rfl⟩)
          | ((go_at_call 58; (with_reducible refine (hn3 _ hB3).mono ?_); rintro e wn ⟨rfl, rfl⟩))
          | (go_at_call 47; go_loud (with_reducible refine (henc _).mono ?_); rintro e w5 ⟨va, rfl, ⟨Aa, ca, rfl, hBa, _⟩, hb5⟩; go_loud (have S5 : DecSt w w5 g (#[.int .i64 kd, .int .i64 dd, .int .i64 td, .int .u32 0, .int .u32 0, .slice none 0 0, q64 Y]) := DecSt.grow (S3.set 6 _) hb5; have hg5 := S5.pdu; have hb05 := S5.below; have hr5 := S5.res; have hB5 := hB.below hb05; clear hc3 hf3))
          | (go_at_call 59; (with_reducible refine (heqc _ _ _ hBa hB5).mono ?_); rintro e w6 ⟨rfl, rfl⟩)
          | (with_reducible refine wpList_store_own2 rfl 30 (.tmp 2) (.tmp 105) rfl w.heap.size #[.int .i64 0, .int .i64 0, .int .i64 0, .int .u32 0, .int .u32 0, .slice none 0 0, .int .u64 0] rfl rfl 30 _ hr5 (by kernel_rfl) rfl (by simp [Value.oneCell']) w.heap.size w hb05 (Nat.le_refl _) ?_; intro w7 hg7 hb07 hz7 hk7)
          | (with_reducible refine wpList_load_blk rfl 30 (.tmp 4) rfl g rfl 30 (#[.int .i64 kd, .int .i64 dd, .int .i64 td, .int .u32 0, .int .u32 0, .slice none 0 0, q64 Y]) _ hg5 Try.underlying30 rfl (by kernel_rfl) ?_)
          | (with_reducible refine wpList_store_own2 rfl 30 (.tmp 2) (.tmp 106) rfl w.heap.size (#[.int .i64 kd, .int .i64 dd, .int .i64 td, .int .u32 0, .int .u32 0, .slice none 0 0, q64 Y]) rfl rfl 30 _ hr5 (by kernel_rfl) rfl (by simp [Value.oneCell', q32, q64]) w.heap.size w hb05 (Nat.le_refl _) ?_; intro w7 hg7 hb07 hz7 hk7))
        )
      have hc7 := hg7.cell
      refine bodyPost_ret (v := .tuple #[.agg #[.int .i64 0, .int .i64 0, .int .i64 0, .int .u32 0, .int .u32 0, .slice none 0 0, .int .u64 0], .int .i64 8]) (by simp [results, Try.results48, go_sem, hc7]) rfl ⟨_, by rw [her'.out], by rw [hq'.out]; exact ⟨_, rfl, NewBytes.nil⟩, hb07⟩
end Go.Proofs.Ytnngknmmokajgaa
