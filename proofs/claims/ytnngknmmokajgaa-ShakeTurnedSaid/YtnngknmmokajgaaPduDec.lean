/- What the program takes bytes for. -/
import Derived.Test.YtnngknmmokajgaaPduEnc
import Derived.Test.YtnngknmmokajgaaGround
import Derived.Test.YtnngknmmokajgaaBytesCut
set_option linter.unusedSimpArgs false
set_option linter.unusedVariables false
namespace Go.Proofs.Ytnngknmmokajgaa
open Go.RowKit Go.Shelf

/-- A PDU, its body in bytes of its own. -/
def IsPdu (base : Nat) (p : P7) : Value → World → Prop := fun v w => ∃ bv, v = .agg #[.int .i64 p.kind, .int .i64 p.dir, .int .i64 p.train, q32 p.a, q32 p.b, bv, q64 p.mac] ∧ NewBytes base p.body bv w
/-- The block of a PDU that is being made. -/
def IsNew (base : Nat) : Value → World → Prop := fun v w => ∃ g, v = .pointer (some ⟨g, 0, none⟩) ∧ base ≤ g ∧ Blk w g 30 #[.int .i64 0, .int .i64 0, .int .i64 0, .int .u32 0, .int .u32 0, .slice none 0 0, .int .u64 0]
theorem IsNew.grow {base : Nat} {v : Value} {w w' : World} (h : IsNew base v w) (hb : Below w.heap.size w w') : IsNew base v w' := by
  obtain ⟨g, e, hg, hB⟩ := h
  exact ⟨g, e, hg, hB.below hb hB.lt⟩
theorem NewBytes.kept {base : Nat} {bs : List UInt8} {v : Value} {w w' : World} (h : NewBytes base bs v w) (hz : w.heap.size ≤ w'.heap.size) (hk : ∀ k, base ≤ k → k < w.heap.size → w'.heap[k]? = w.heap[k]?) : NewBytes base bs v w' := by
  obtain ⟨A, c, e, hB, hf⟩ := h
  refine ⟨A, c, e, ⟨fun h0 => ?_, hB.cap, hB.max⟩, fun h0 => ?_⟩
  · have h1 : 0 < bs.length := by rwa [cellsOf_length] at h0
    obtain ⟨g, rfl, h2, h3, h4⟩ := hf h1
    obtain ⟨b, off, e', hlt, hc⟩ := hB.row h0
    simp only [Option.some.injEq, Addr.mk.injEq, and_true] at e'
    obtain ⟨rfl, rfl⟩ := e'
    exact ⟨g, 0, rfl, by omega, fun j u hu => (World.cell?_of_block (a := ⟨g, 0 + j, none⟩) (hk g h2 h3)).trans (hc j u hu)⟩
  · obtain ⟨g, h1, h2, h3, h4⟩ := hf h0
    exact ⟨g, h1, h2, by omega, fun i hi => (World.frozen?_of_block (a := ⟨g, i, none⟩) (hk g h2 h3)).trans (h4 i hi)⟩
theorem NewBytes.setCell {base : Nat} {bs : List UInt8} {v : Value} {w : World} (h : NewBytes base bs v w) {p : Addr} (hp : p.block < base) (u : Value) : NewBytes base bs v (w.setCell p u) :=
  h.kept (by simp [World.setCell]) fun k hk _ => Below.heap_setCell w p u k (by omega)
/-- Where Decode stands: the PDU's own block, the result's, and what was there before. -/
structure DecSt (w W : World) (g : Nat) (cells : Array Value) : Prop where
  pdu : Blk W g 30 cells
  res : Blk W w.heap.size 30 #[.int .i64 0, .int .i64 0, .int .i64 0, .int .u32 0, .int .u32 0, .slice none 0 0, .int .u64 0]
  below : Below w.heap.size w W
  gt : w.heap.size < g
theorem DecSt.set {w W : World} {g : Nat} {cells : Array Value} (h : DecSt w W g cells) (i : Nat) (u : Value) : DecSt w (W.setCell ⟨g, i, none⟩ u) g (cells.setIfInBounds i u) :=
  ⟨h.pdu.set_ i u, h.res.far (p := ⟨g, i, none⟩) (by have := h.gt; show _ ≠ g; omega) u, h.below.setCell (p := ⟨g, i, none⟩) (by have := h.gt; show _ ≤ g; omega) u, h.gt⟩
theorem DecSt.grow {w W W' : World} {g : Nat} {cells : Array Value} (h : DecSt w W g cells) (hb : Below W.heap.size W W') : DecSt w W' g cells :=
  ⟨h.pdu.below hb h.pdu.lt, h.res.below hb h.res.lt, h.below.trans (hb.mono h.below.size), h.gt⟩
theorem DecSt.alloc {w W : World} {g : Nat} {cells : Array Value} (h : DecSt w W g cells) (o : Obj) : DecSt w (W.alloc o) g cells := h.grow ((Below.refl _ _).alloc (Nat.le_refl _) o)
theorem DecSt.bytes {w W : World} {g : Nat} {cells : Array Value} (h : DecSt w W g cells) {A : Option Addr} {c : Nat} {bs : List UInt8} (hB : Bytes w A c bs) : Bytes W A c bs := hB.below h.below
theorem num_lt (l : List UInt8) : num l < 256 ^ l.length := by
  induction l with
  | nil => simp [num]
  | cons b l ih =>
    rw [num_cons, List.length_cons, Nat.pow_succ]
    have := b.toNat_lt
    have h1 : b.toNat * 256 ^ l.length ≤ 255 * 256 ^ l.length := Nat.mul_le_mul_right _ (by omega)
    omega
theorem num3 (l : List UInt8) (h : l.length = 3) : (BitVec.ofNat 64 (num l)).toNat = num l ∧ num l < 16777216 := by
  have := num_lt l
  rw [h] at this
  have h2 : num l < 16777216 := by simpa using this
  refine ⟨?_, h2⟩
  simp; omega
theorem low_of (n : Nat) : (BitVec.ofNat 64 n).setWidth 32 = BitVec.ofNat 32 n := by
  apply BitVec.eq_of_toNat_eq
  simp
/-- What the program takes bytes for, by the words that it reads. -/
theorem candI_of (bs : List UInt8) (h8 : 8 ≤ bs.length) (b0 : UInt8) (hb : b0 = nth bs 0) (T X : BitVec 64) (hT : T.toNat = num ((bs.drop 1).take 3)) (hX : X = BitVec.ofNat 64 (num ((bs.drop 4).take 4))) (kd dd td : Int)
    (hk : (b0.toNat : Int) / 2 = kd) (hd : (b0.toNat : Int) % 2 = dd) (ht : (T.toNat : Int) = td) :
    candI bs = if kd = 1 then some ⟨1, dd, td, X.setWidth 32, 0, [], 0⟩ else if (bs.drop 8).length < 8 then none
      else if kd = 2 ∨ kd = 3 then some ⟨kd, dd, td, X.setWidth 32, BitVec.ofNat 32 (num (((bs.drop 8).take ((bs.drop 8).length - 8)).take (min 4 ((bs.drop 8).take ((bs.drop 8).length - 8)).length))), [], BitVec.ofNat 64 (num ((bs.drop 8).drop ((bs.drop 8).length - 8)))⟩
      else if kd = 5 then some ⟨5, dd, td, 0, X.setWidth 32, ((bs.drop 8).take ((bs.drop 8).length - 8)).drop (min 2 ((bs.drop 8).take ((bs.drop 8).length - 8)).length), BitVec.ofNat 64 (num ((bs.drop 8).drop ((bs.drop 8).length - 8)))⟩
      else if kd = 6 then some ⟨6, dd, td, 0, X.setWidth 32, (bs.drop 8).take ((bs.drop 8).length - 8), BitVec.ofNat 64 (num ((bs.drop 8).drop ((bs.drop 8).length - 8)))⟩
      else some ⟨kd, dd, td, 0, 0, [], BitVec.ofNat 64 (num ((bs.drop 8).drop ((bs.drop 8).length - 8)))⟩ := by
  unfold candI
  rw [if_neg (by omega)]
  unfold restI
  subst hb hX hd ht hk
  rw [hT, low_of]
  generalize nth bs 0 = x
  have g1 : ((x.toNat : Int) / 2 = 1) ↔ (x.toNat / 2 = 1) := by omega
  have g2 : ((x.toNat : Int) / 2 = 2) ↔ (x.toNat / 2 = 2) := by omega
  have g3 : ((x.toNat : Int) / 2 = 3) ↔ (x.toNat / 2 = 3) := by omega
  have g5 : ((x.toNat : Int) / 2 = 5) ↔ (x.toNat / 2 = 5) := by omega
  have g6 : ((x.toNat : Int) / 2 = 6) ↔ (x.toNat / 2 = 6) := by omega
  simp only [g1, g2, g3, g5, g6, Int.natCast_ediv, Int.natCast_emod]
  rfl
theorem dec_short (A : Option Addr) (c : Nat) (bs : List UInt8) (w : World) (hB : Bytes w A c bs) (hlt : bs.length < 8) :
    Calls Try.prog 48 #[.slice A bs.length c] w fun e w' => e = .returned (.tuple #[.agg #[.int .i64 0, .int .i64 0, .int .i64 0, .int .u32 0, .int .u32 0, .slice none 0 0, .int .u64 0], .int .i64 8]) ∧ Below w.heap.size w w' := by
  have hl : (bs.length : Int) < 8 := by omega
  go_enter Try.func48, Try.ntmps48
  go_wp2_with fail
  have hg := Blk.new w 30 #[.int .i64 0, .int .i64 0, .int .i64 0, .int .u32 0, .int .u32 0, .slice none 0 0, .int .u64 0]
  have hc := hg.cell
  simp only [List.getElem?_toArray, List.getElem?_cons_succ, List.getElem?_cons_zero] at hc
  refine bodyPost_ret (v := .tuple #[.agg #[.int .i64 0, .int .i64 0, .int .i64 0, .int .u32 0, .int .u32 0, .slice none 0 0, .int .u64 0], .int .i64 8]) (by simp [results, Try.results48, go_sem, hc]) rfl ⟨rfl, (Below.refl _ _).alloc (Nat.le_refl _) _⟩
attribute [local go_sem high] conv_64_i64
set_option maxHeartbeats 4000000 in
theorem dec_1 (b off c : Nat) (bs : List UInt8) (w : World) (hB : Bytes w (some ⟨b, off, none⟩) c bs) (hlen : bs.length ≤ 2000) (h8 : 8 ≤ bs.length) (hk0 : ((nth bs 0).toNat : Int) / 2 = 1) :
    Calls Try.prog 48 #[.slice (some ⟨b, off, none⟩) bs.length c] w fun e w' => ∃ v, e = .returned (.tuple #[v, .int .i64 (if (decI bs).isSome then 0 else 8)]) ∧ IsPdu w.heap.size ((decI bs).getD P7.none_) v w' ∧ Below w.heap.size w w' := by
  have hl : ¬ ((bs.length : Int) < 8) := by omega
  obtain ⟨b', off', e0, hblt, hb0⟩ := hB.at_ (k := 0) (by omega)
  simp only [Option.some.injEq, Addr.mk.injEq, and_true] at e0
  obtain ⟨rfl, rfl⟩ := e0
  rw [Nat.add_zero] at hb0
  obtain ⟨er, her⟩ : ∃ er : Int, er = if (decI bs).isSome then 0 else 8 := ⟨_, rfl⟩
  obtain ⟨q, hq⟩ : ∃ q, q = (decI bs).getD P7.none_ := ⟨_, rfl⟩
  rw [← her, ← hq]
  replace her := Lib.hid her
  replace hq := Lib.hid hq
  go_enter Try.func48, Try.ntmps48
  go_wp2_with fail
  obtain ⟨w1, hw1⟩ : ∃ w1, w1 = w.alloc (.cells #[.int .i64 0, .int .i64 0, .int .i64 0, .int .u32 0, .int .u32 0, .slice none 0 0, .int .u64 0] 30) := ⟨_, rfl⟩
  rw [← hw1]
  have hg0 : Blk w1 w.heap.size 30 #[.int .i64 0, .int .i64 0, .int .i64 0, .int .u32 0, .int .u32 0, .slice none 0 0, .int .u64 0] := by rw [hw1]; exact Blk.new _ _ _
  have hb01 : Below w.heap.size w w1 := by rw [hw1]; exact (Below.refl _ _).alloc (Nat.le_refl _) _
  have hz1 : w1.heap.size = w.heap.size + 1 := by rw [hw1]; simp
  have hB1 := hB.below hb01
  have hb1 : w1.cell? ⟨b, off, none⟩ = some (q8 (nth bs 0)) := (hb01.cell (p := ⟨b, off, none⟩) hblt).trans hb0
  have hblt1 : b < w1.heap.size := by omega
  clear hw1
  have hcap := hB.cap
  have hmax := hB.max
  obtain ⟨T, hT⟩ : ∃ T, T = BitVec.ofNat 64 (num ((bs.drop 1).take 3)) := ⟨_, rfl⟩
  have hT3 := num3 ((bs.drop 1).take 3) (by simp; omega)
  rw [← hT] at hT3
  have hTlt : T.toNat < 9223372036854775808 := by omega
  have hn1 := fun W (h : Bytes W (some ⟨b, off, none⟩) c bs) => number_k _ 3 (c - 1) _ W (by simp; omega) (h.cut 1 3 (by omega) (by omega)) (by simp; omega)
  rw [← hT] at hn1
  obtain ⟨b0, hbb⟩ : ∃ b0, b0 = nth bs 0 := ⟨_, rfl⟩
  rw [← hbb] at hb1
  replace hT := Lib.hid hT
  replace hT3 := Lib.hid hT3
  replace hbb := Lib.hid hbb
  apply wp_region_lexl
  case hFl =>
    intro u
    simp only [List.map, fill, Act.put, List.setIfInBounds_toArray, List.set_cons_zero, List.set_cons_succ, Nat.reduceAdd, Nat.zero_add]
    rfl
  case hm => kernel_rfl
  case hB => kernel_rfl
  case hA => kernel_rfl
  case hap => kernel_rfl
  iterate 10 (
    apply LexL.is
    · (intro u w' hk hd
       simp [Waited, Region.binds, Is] at hd
       refine looked_want (by first | rfl | simp [Region.wanted, yielded, hd]) ?_
       intro K hK
       obtain ⟨hcR, _⟩ := bcell hk
       go_wp2_with (fail)
       try simp only [hd] at hK
       refine hK _ _ ?_ rfl
       first | exact Below.refl _ _ | exact hb3)
    )
  iterate 2 (
    apply LexL.is
    · (intro u w' hk hd
       simp [Waited, Region.binds, Is] at hd
       refine looked_want (by first | rfl | simp [Region.wanted, yielded, hd]) ?_
       intro K hK
       obtain ⟨hcR, _⟩ := bcell hk
       go_wp2_with (fail)
       try simp only [hd] at hK
       refine hK _ _ ?_ rfl
       first | exact Below.refl _ _ | exact hb3)
    )
  apply LexL.is
  · (intro u w' hk hd
     simp [Waited, Region.binds, Is] at hd
     refine looked_want (by first | rfl | simp [Region.wanted, yielded, hd]) ?_
     intro K hK
     obtain ⟨hcR, _⟩ := bcell hk
     go_wp2_with ((go_at_call 58; (with_reducible refine (hn1 _ (hB1.below hk)).mono ?_); rintro e wn ⟨rfl, rfl⟩))
     try simp only [hd] at hK
     refine hK _ _ ?_ rfl
     first | exact Below.refl _ _ | exact hb3)
  iterate 2 (
    apply LexL.is
    · (intro u w' hk hd
       simp [Waited, Region.binds, Is] at hd
       refine looked_want (by first | rfl | simp [Region.wanted, yielded, hd]) ?_
       intro K hK
       obtain ⟨hcR, _⟩ := bcell hk
       go_wp2_with (fail)
       try simp only [hd] at hK
       refine hK _ _ ?_ rfl
       first | exact Below.refl _ _ | exact hb3)
    )
  refine LexL.word (IsNew w1.heap.size) (fun _ _ _ h hb => h.grow hb) ?_ ?_
  · (intro u w' hk hd
     simp [Waited, Region.binds, Is] at hd
     refine looked_want (by first | rfl | simp [Region.wanted, yielded, hd]) ?_
     intro K hK
     obtain ⟨hcR, _⟩ := bcell hk
     skip
     go_wp2_with (fail)
     skip
     exact hK _ _ ((Below.refl _ _).alloc (Nat.le_refl _) _) ⟨_, rfl, hk.size, Blk.new _ _ _⟩)
  refine LexL.last ?_
  intro u w2 hk hd
  simp only [List.nil_append, List.cons_append] at hd
  obtain ⟨g, hu, hgw, hgB⟩ := hd 15 _ rfl
  have hv := hd 14 _ rfl
  simp only [Is] at hv
  clear hd
  refine ⟨rfl, ?_⟩
  intro K hK
  refine wp_store_row 30 (.tmp 4) (.tmp 27) rfl g #[.int .i64 ((b0.toNat : Int) / 2), .int .i64 ((b0.toNat : Int) % 2), .int .i64 T.toNat, .int .u32 0, .int .u32 0, .slice none 0 0, .int .u64 0] hu hv 30 _ hgB (by kernel_rfl) rfl (by simp [Value.oneCell']) (hK _ _ ?_)
  obtain ⟨w3, hw3⟩ : ∃ w3, w3 = w2.setRow g #[.int .i64 ((b0.toNat : Int) / 2), .int .i64 ((b0.toNat : Int) % 2), .int .i64 T.toNat, .int .u32 0, .int .u32 0, .slice none 0 0, .int .u64 0] := ⟨_, rfl⟩
  rw [← hw3]
  have hg3 : Blk w3 g 30 #[.int .i64 ((b0.toNat : Int) / 2), .int .i64 ((b0.toNat : Int) % 2), .int .i64 T.toNat, .int .u32 0, .int .u32 0, .slice none 0 0, .int .u64 0] := by rw [hw3]; exact hgB.row _
  have hb13 : Below w1.heap.size w1 w3 := by rw [hw3]; exact below_row hk hgw _
  clear hw3 hgB
  have hb03 : Below w.heap.size w w3 := hb01.trans (hb13.mono (by omega))
  have hr3 := hg0.below hb13 (by omega)
  have hB3 := hB.below hb03
  obtain ⟨X, hX⟩ : ∃ X, X = BitVec.ofNat 64 (num ((bs.drop 4).take 4)) := ⟨_, rfl⟩
  have hn2 := fun W (h : Bytes W (some ⟨b, off, none⟩) c bs) => number_k _ 4 (c - 4) _ W (by simp; omega) (h.cut 4 4 (by omega) (by omega)) (by simp; omega)
  rw [← hX] at hn2
  replace hX := Lib.hid hX
  have hgn : w.heap.size < g := by omega
  have S3 : DecSt w w3 g _ := ⟨hg3, hr3, hb03, hgn⟩
  clear hn1 hb0 hb1 hv hTlt hblt1
  generalize hKd : (b0.toNat : Int) / 2 = kd at *
  generalize hDd : (b0.toNat : Int) % 2 = dd at *
  generalize hTd : (T.toNat : Int) = td at *
  have hcd := candI_of bs h8 b0 hbb.out T X hT3.out.1 hX.out kd dd td hKd hDd hTd
  replace hcd := Lib.hid hcd
  replace hKd := Lib.hid hKd
  replace hDd := Lib.hid hDd
  replace hTd := Lib.hid hTd
  obtain ⟨R, hR⟩ : ∃ R, R = cutA (some ⟨b, off, none⟩) 8 c := ⟨_, rfl⟩
  obtain ⟨n8, hn8⟩ : ∃ n8, n8 + 8 = bs.length := ⟨bs.length - 8, by omega⟩
  have hs8 : ∀ W, (Instr.slice 27 (.slice (some ⟨b, off, none⟩) bs.length c) (some (.int .i64 8)) none none).run Try.prog W = .ok (.slice R n8 (c - 8)) W := fun W => by
    rw [slice_bytes_l _ _ _ _ _ _ (by omega) (by omega), hR, ← hn8]
    simp
  have hBR := fun W (h : Bytes W (some ⟨b, off, none⟩) c bs) => h.cutFrom 8 h8
  rw [← hR] at hBR
  replace hR := Lib.hid hR
  have hk1 : kd = 1 := by rw [← hKd.out, hbb.out]; exact hk0
  subst hk1
  have hcand : candI bs = some ⟨1, dd, td, X.setWidth 32, 0, [], 0⟩ := by rw [hcd.out, if_pos rfl]
  have henc : ∀ W, Calls Try.prog 47 #[.agg #[.int .i64 1, .int .i64 dd, .int .i64 td, q32 (X.setWidth 32), .int .u32 0, .slice none 0 0, .int .u64 0]] W fun e w' => ∃ v, e = .returned (.tuple #[v, .int .i64 (if may ⟨1, dd, td, X.setWidth 32, 0, [], 0⟩ then 0 else 1)]) ∧ NewBytes W.heap.size (enc ⟨1, dd, td, X.setWidth 32, 0, [], 0⟩) v w' ∧ Below W.heap.size W w' :=
    fun W => penc_k ⟨1, dd, td, X.setWidth 32, 0, [], 0⟩ none 0 0 W rfl (Bytes.nil _) (by simp)
  have hbody : ∀ W : World, NewBytes w.heap.size [] (.slice none 0 0) W := fun W => NewBytes.nil
  generalize hp : (⟨1, dd, td, X.setWidth 32, 0, [], 0⟩ : P7) = p at hcand henc
  replace hp := Lib.hid hp
  have hc3 := hg3.cell
  have hf3 := hg3.frozen
  cases hm : may p with
  | false =>
    have hdec : decI bs = none := by simp [decI, hcand, hm]
    have her' := her.out
    have hq' := hq.out
    rw [hdec] at her' hq'
    replace her' : er = 8 := her'
    replace hq' : q = P7.none_ := hq'
    replace her' := Lib.hid her'
    replace hq' := Lib.hid hq'
    simp only [hm, Bool.false_eq_true, if_false] at henc
    go_wp2_with (
      (first
        | (go_at_call 58; (with_reducible refine (hn2 _ hB3).mono ?_); rintro e wn ⟨rfl, rfl⟩)
        | (fail)
        | (go_at_call 47; go_loud (with_reducible refine (henc _).mono ?_); rintro e w5 ⟨va, rfl, ⟨Aa, ca, rfl, hBa, _⟩, hb5⟩; go_loud (have S5 : DecSt w w5 g (#[.int .i64 1, .int .i64 dd, .int .i64 td, q32 (X.setWidth 32), .int .u32 0, .slice none 0 0, .int .u64 0]) := DecSt.grow (S3.set 3 _) hb5; have hg5 := S5.pdu; have hb05 := S5.below; have hr5 := S5.res; have hB5 := hB.below hb05; clear hc3 hf3))
        | (go_at_call 59; (with_reducible refine (heqc _ _ _ hBa hB5).mono ?_); rintro e w6 ⟨rfl, rfl⟩)
        | (with_reducible refine wpList_store_own2 rfl 30 (.tmp 2) (.tmp 105) rfl w.heap.size #[.int .i64 0, .int .i64 0, .int .i64 0, .int .u32 0, .int .u32 0, .slice none 0 0, .int .u64 0] rfl rfl 30 _ hr5 (by kernel_rfl) rfl (by simp [Value.oneCell']) w.heap.size w hb05 (Nat.le_refl _) ?_; intro w7 hg7 hb07 hz7 hk7)
        | (with_reducible refine wpList_load_blk rfl 30 (.tmp 4) rfl g rfl 30 (#[.int .i64 1, .int .i64 dd, .int .i64 td, q32 (X.setWidth 32), .int .u32 0, .slice none 0 0, .int .u64 0]) _ hg5 Try.underlying30 rfl (by kernel_rfl) ?_)
        | (with_reducible refine wpList_store_own2 rfl 30 (.tmp 2) (.tmp 106) rfl w.heap.size (#[.int .i64 1, .int .i64 dd, .int .i64 td, q32 (X.setWidth 32), .int .u32 0, .slice none 0 0, .int .u64 0]) rfl rfl 30 _ hr5 (by kernel_rfl) rfl (by simp [Value.oneCell', q32, q64]) w.heap.size w hb05 (Nat.le_refl _) ?_; intro w7 hg7 hb07 hz7 hk7))
      )
    have hc7 := hg7.cell
    refine bodyPost_ret (v := .tuple #[.agg #[.int .i64 0, .int .i64 0, .int .i64 0, .int .u32 0, .int .u32 0, .slice none 0 0, .int .u64 0], .int .i64 8]) (by simp [results, Try.results48, go_sem, hc7]) rfl ⟨_, by rw [her'.out], by rw [hq'.out]; exact ⟨_, rfl, NewBytes.nil⟩, hb07⟩
  | true =>
    simp only [hm, if_true] at henc
    by_cases heq : enc p = bs
    · have hdec : decI bs = some p := by simp [decI, hcand, hm, heq]
      have her' := her.out
      have hq' := hq.out
      rw [hdec] at her' hq'
      replace her' : er = 0 := her'
      replace hq' : q = p := hq'
      replace her' := Lib.hid her'
      replace hq' := Lib.hid hq'
      have heqc : ∀ (W : World) Aa ca, Bytes W Aa ca (enc p) → Bytes W (some ⟨b, off, none⟩) c bs → Calls Try.prog 59 #[.slice Aa (enc p).length ca, .slice (some ⟨b, off, none⟩) bs.length c] W fun e w' => e = .returned (.bool true) ∧ w' = W := by
        intro W Aa ca h1 h2
        have := equal_any Aa _ ca (enc p) (some ⟨b, off, none⟩) bs.length c bs W rfl rfl h1 h2
        rwa [decide_eq_true heq] at this
      replace heq := Lib.hid heq
      go_wp2_with (
        (first
          | (go_at_call 58; (with_reducible refine (hn2 _ hB3).mono ?_); rintro e wn ⟨rfl, rfl⟩)
          | (fail)
          | (go_at_call 47; go_loud (with_reducible refine (henc _).mono ?_); rintro e w5 ⟨va, rfl, ⟨Aa, ca, rfl, hBa, _⟩, hb5⟩; go_loud (have S5 : DecSt w w5 g (#[.int .i64 1, .int .i64 dd, .int .i64 td, q32 (X.setWidth 32), .int .u32 0, .slice none 0 0, .int .u64 0]) := DecSt.grow (S3.set 3 _) hb5; have hg5 := S5.pdu; have hb05 := S5.below; have hr5 := S5.res; have hB5 := hB.below hb05; clear hc3 hf3))
          | (go_at_call 59; (with_reducible refine (heqc _ _ _ hBa hB5).mono ?_); rintro e w6 ⟨rfl, rfl⟩)
          | (with_reducible refine wpList_store_own2 rfl 30 (.tmp 2) (.tmp 105) rfl w.heap.size #[.int .i64 0, .int .i64 0, .int .i64 0, .int .u32 0, .int .u32 0, .slice none 0 0, .int .u64 0] rfl rfl 30 _ hr5 (by kernel_rfl) rfl (by simp [Value.oneCell']) w.heap.size w hb05 (Nat.le_refl _) ?_; intro w7 hg7 hb07 hz7 hk7)
          | (with_reducible refine wpList_load_blk rfl 30 (.tmp 4) rfl g rfl 30 (#[.int .i64 1, .int .i64 dd, .int .i64 td, q32 (X.setWidth 32), .int .u32 0, .slice none 0 0, .int .u64 0]) _ hg5 Try.underlying30 rfl (by kernel_rfl) ?_)
          | (with_reducible refine wpList_store_own2 rfl 30 (.tmp 2) (.tmp 106) rfl w.heap.size (#[.int .i64 1, .int .i64 dd, .int .i64 td, q32 (X.setWidth 32), .int .u32 0, .slice none 0 0, .int .u64 0]) rfl rfl 30 _ hr5 (by kernel_rfl) rfl (by simp [Value.oneCell', q32, q64]) w.heap.size w hb05 (Nat.le_refl _) ?_; intro w7 hg7 hb07 hz7 hk7))
        )
      have hc7 := hg7.cell
      refine bodyPost_ret (v := .tuple #[.agg #[.int .i64 1, .int .i64 dd, .int .i64 td, q32 (X.setWidth 32), .int .u32 0, .slice none 0 0, .int .u64 0], .int .i64 0]) (by simp [results, Try.results48, go_sem, hc7]) rfl ⟨_, by rw [her'.out], by rw [hq'.out]; ((rw [← hp.out]; exact ⟨_, rfl, NewBytes.nil⟩)), hb07⟩
    · have hdec : decI bs = none := by simp [decI, hcand, hm, heq]
      have her' := her.out
      have hq' := hq.out
      rw [hdec] at her' hq'
      replace her' : er = 8 := her'
      replace hq' : q = P7.none_ := hq'
      replace her' := Lib.hid her'
      replace hq' := Lib.hid hq'
      have heqc : ∀ (W : World) Aa ca, Bytes W Aa ca (enc p) → Bytes W (some ⟨b, off, none⟩) c bs → Calls Try.prog 59 #[.slice Aa (enc p).length ca, .slice (some ⟨b, off, none⟩) bs.length c] W fun e w' => e = .returned (.bool false) ∧ w' = W := by
        intro W Aa ca h1 h2
        have := equal_any Aa _ ca (enc p) (some ⟨b, off, none⟩) bs.length c bs W rfl rfl h1 h2
        rwa [decide_eq_false heq] at this
      replace heq := Lib.hid heq
      go_wp2_with (
        (first
          | (go_at_call 58; (with_reducible refine (hn2 _ hB3).mono ?_); rintro e wn ⟨rfl, rfl⟩)
          | (fail)
          | (go_at_call 47; go_loud (with_reducible refine (henc _).mono ?_); rintro e w5 ⟨va, rfl, ⟨Aa, ca, rfl, hBa, _⟩, hb5⟩; go_loud (have S5 : DecSt w w5 g (#[.int .i64 1, .int .i64 dd, .int .i64 td, q32 (X.setWidth 32), .int .u32 0, .slice none 0 0, .int .u64 0]) := DecSt.grow (S3.set 3 _) hb5; have hg5 := S5.pdu; have hb05 := S5.below; have hr5 := S5.res; have hB5 := hB.below hb05; clear hc3 hf3))
          | (go_at_call 59; (with_reducible refine (heqc _ _ _ hBa hB5).mono ?_); rintro e w6 ⟨rfl, rfl⟩)
          | (with_reducible refine wpList_store_own2 rfl 30 (.tmp 2) (.tmp 105) rfl w.heap.size #[.int .i64 0, .int .i64 0, .int .i64 0, .int .u32 0, .int .u32 0, .slice none 0 0, .int .u64 0] rfl rfl 30 _ hr5 (by kernel_rfl) rfl (by simp [Value.oneCell']) w.heap.size w hb05 (Nat.le_refl _) ?_; intro w7 hg7 hb07 hz7 hk7)
          | (with_reducible refine wpList_load_blk rfl 30 (.tmp 4) rfl g rfl 30 (#[.int .i64 1, .int .i64 dd, .int .i64 td, q32 (X.setWidth 32), .int .u32 0, .slice none 0 0, .int .u64 0]) _ hg5 Try.underlying30 rfl (by kernel_rfl) ?_)
          | (with_reducible refine wpList_store_own2 rfl 30 (.tmp 2) (.tmp 106) rfl w.heap.size (#[.int .i64 1, .int .i64 dd, .int .i64 td, q32 (X.setWidth 32), .int .u32 0, .slice none 0 0, .int .u64 0]) rfl rfl 30 _ hr5 (by kernel_rfl) rfl (by simp [Value.oneCell', q32, q64]) w.heap.size w hb05 (Nat.le_refl _) ?_; intro w7 hg7 hb07 hz7 hk7))
        )
      have hc7 := hg7.cell
      refine bodyPost_ret (v := .tuple #[.agg #[.int .i64 0, .int .i64 0, .int .i64 0, .int .u32 0, .int .u32 0, .slice none 0 0, .int .u64 0], .int .i64 8]) (by simp [results, Try.results48, go_sem, hc7]) rfl ⟨_, by rw [her'.out], by rw [hq'.out]; exact ⟨_, rfl, NewBytes.nil⟩, hb07⟩
set_option maxHeartbeats 4000000 in
theorem dec_s (b off c : Nat) (bs : List UInt8) (w : World) (hB : Bytes w (some ⟨b, off, none⟩) c bs) (hlen : bs.length ≤ 2000) (h8 : 8 ≤ bs.length) (hk0 : ((nth bs 0).toNat : Int) / 2 ≠ 1) (h16 : bs.length < 16) :
    Calls Try.prog 48 #[.slice (some ⟨b, off, none⟩) bs.length c] w fun e w' => ∃ v, e = .returned (.tuple #[v, .int .i64 (if (decI bs).isSome then 0 else 8)]) ∧ IsPdu w.heap.size ((decI bs).getD P7.none_) v w' ∧ Below w.heap.size w w' := by
  have hl : ¬ ((bs.length : Int) < 8) := by omega
  obtain ⟨b', off', e0, hblt, hb0⟩ := hB.at_ (k := 0) (by omega)
  simp only [Option.some.injEq, Addr.mk.injEq, and_true] at e0
  obtain ⟨rfl, rfl⟩ := e0
  rw [Nat.add_zero] at hb0
  obtain ⟨er, her⟩ : ∃ er : Int, er = if (decI bs).isSome then 0 else 8 := ⟨_, rfl⟩
  obtain ⟨q, hq⟩ : ∃ q, q = (decI bs).getD P7.none_ := ⟨_, rfl⟩
  rw [← her, ← hq]
  replace her := Lib.hid her
  replace hq := Lib.hid hq
  go_enter Try.func48, Try.ntmps48
  go_wp2_with fail
  obtain ⟨w1, hw1⟩ : ∃ w1, w1 = w.alloc (.cells #[.int .i64 0, .int .i64 0, .int .i64 0, .int .u32 0, .int .u32 0, .slice none 0 0, .int .u64 0] 30) := ⟨_, rfl⟩
  rw [← hw1]
  have hg0 : Blk w1 w.heap.size 30 #[.int .i64 0, .int .i64 0, .int .i64 0, .int .u32 0, .int .u32 0, .slice none 0 0, .int .u64 0] := by rw [hw1]; exact Blk.new _ _ _
  have hb01 : Below w.heap.size w w1 := by rw [hw1]; exact (Below.refl _ _).alloc (Nat.le_refl _) _
  have hz1 : w1.heap.size = w.heap.size + 1 := by rw [hw1]; simp
  have hB1 := hB.below hb01
  have hb1 : w1.cell? ⟨b, off, none⟩ = some (q8 (nth bs 0)) := (hb01.cell (p := ⟨b, off, none⟩) hblt).trans hb0
  have hblt1 : b < w1.heap.size := by omega
  clear hw1
  have hcap := hB.cap
  have hmax := hB.max
  obtain ⟨T, hT⟩ : ∃ T, T = BitVec.ofNat 64 (num ((bs.drop 1).take 3)) := ⟨_, rfl⟩
  have hT3 := num3 ((bs.drop 1).take 3) (by simp; omega)
  rw [← hT] at hT3
  have hTlt : T.toNat < 9223372036854775808 := by omega
  have hn1 := fun W (h : Bytes W (some ⟨b, off, none⟩) c bs) => number_k _ 3 (c - 1) _ W (by simp; omega) (h.cut 1 3 (by omega) (by omega)) (by simp; omega)
  rw [← hT] at hn1
  obtain ⟨b0, hbb⟩ : ∃ b0, b0 = nth bs 0 := ⟨_, rfl⟩
  rw [← hbb] at hb1
  replace hT := Lib.hid hT
  replace hT3 := Lib.hid hT3
  replace hbb := Lib.hid hbb
  apply wp_region_lexl
  case hFl =>
    intro u
    simp only [List.map, fill, Act.put, List.setIfInBounds_toArray, List.set_cons_zero, List.set_cons_succ, Nat.reduceAdd, Nat.zero_add]
    rfl
  case hm => kernel_rfl
  case hB => kernel_rfl
  case hA => kernel_rfl
  case hap => kernel_rfl
  iterate 10 (
    apply LexL.is
    · (intro u w' hk hd
       simp [Waited, Region.binds, Is] at hd
       refine looked_want (by first | rfl | simp [Region.wanted, yielded, hd]) ?_
       intro K hK
       obtain ⟨hcR, _⟩ := bcell hk
       go_wp2_with (fail)
       try simp only [hd] at hK
       refine hK _ _ ?_ rfl
       first | exact Below.refl _ _ | exact hb3)
    )
  iterate 2 (
    apply LexL.is
    · (intro u w' hk hd
       simp [Waited, Region.binds, Is] at hd
       refine looked_want (by first | rfl | simp [Region.wanted, yielded, hd]) ?_
       intro K hK
       obtain ⟨hcR, _⟩ := bcell hk
       go_wp2_with (fail)
       try simp only [hd] at hK
       refine hK _ _ ?_ rfl
       first | exact Below.refl _ _ | exact hb3)
    )
  apply LexL.is
  · (intro u w' hk hd
     simp [Waited, Region.binds, Is] at hd
     refine looked_want (by first | rfl | simp [Region.wanted, yielded, hd]) ?_
     intro K hK
     obtain ⟨hcR, _⟩ := bcell hk
     go_wp2_with ((go_at_call 58; (with_reducible refine (hn1 _ (hB1.below hk)).mono ?_); rintro e wn ⟨rfl, rfl⟩))
     try simp only [hd] at hK
     refine hK _ _ ?_ rfl
     first | exact Below.refl _ _ | exact hb3)
  iterate 2 (
    apply LexL.is
    · (intro u w' hk hd
       simp [Waited, Region.binds, Is] at hd
       refine looked_want (by first | rfl | simp [Region.wanted, yielded, hd]) ?_
       intro K hK
       obtain ⟨hcR, _⟩ := bcell hk
       go_wp2_with (fail)
       try simp only [hd] at hK
       refine hK _ _ ?_ rfl
       first | exact Below.refl _ _ | exact hb3)
    )
  refine LexL.word (IsNew w1.heap.size) (fun _ _ _ h hb => h.grow hb) ?_ ?_
  · (intro u w' hk hd
     simp [Waited, Region.binds, Is] at hd
     refine looked_want (by first | rfl | simp [Region.wanted, yielded, hd]) ?_
     intro K hK
     obtain ⟨hcR, _⟩ := bcell hk
     skip
     go_wp2_with (fail)
     skip
     exact hK _ _ ((Below.refl _ _).alloc (Nat.le_refl _) _) ⟨_, rfl, hk.size, Blk.new _ _ _⟩)
  refine LexL.last ?_
  intro u w2 hk hd
  simp only [List.nil_append, List.cons_append] at hd
  obtain ⟨g, hu, hgw, hgB⟩ := hd 15 _ rfl
  have hv := hd 14 _ rfl
  simp only [Is] at hv
  clear hd
  refine ⟨rfl, ?_⟩
  intro K hK
  refine wp_store_row 30 (.tmp 4) (.tmp 27) rfl g #[.int .i64 ((b0.toNat : Int) / 2), .int .i64 ((b0.toNat : Int) % 2), .int .i64 T.toNat, .int .u32 0, .int .u32 0, .slice none 0 0, .int .u64 0] hu hv 30 _ hgB (by kernel_rfl) rfl (by simp [Value.oneCell']) (hK _ _ ?_)
  obtain ⟨w3, hw3⟩ : ∃ w3, w3 = w2.setRow g #[.int .i64 ((b0.toNat : Int) / 2), .int .i64 ((b0.toNat : Int) % 2), .int .i64 T.toNat, .int .u32 0, .int .u32 0, .slice none 0 0, .int .u64 0] := ⟨_, rfl⟩
  rw [← hw3]
  have hg3 : Blk w3 g 30 #[.int .i64 ((b0.toNat : Int) / 2), .int .i64 ((b0.toNat : Int) % 2), .int .i64 T.toNat, .int .u32 0, .int .u32 0, .slice none 0 0, .int .u64 0] := by rw [hw3]; exact hgB.row _
  have hb13 : Below w1.heap.size w1 w3 := by rw [hw3]; exact below_row hk hgw _
  clear hw3 hgB
  have hb03 : Below w.heap.size w w3 := hb01.trans (hb13.mono (by omega))
  have hr3 := hg0.below hb13 (by omega)
  have hB3 := hB.below hb03
  obtain ⟨X, hX⟩ : ∃ X, X = BitVec.ofNat 64 (num ((bs.drop 4).take 4)) := ⟨_, rfl⟩
  have hn2 := fun W (h : Bytes W (some ⟨b, off, none⟩) c bs) => number_k _ 4 (c - 4) _ W (by simp; omega) (h.cut 4 4 (by omega) (by omega)) (by simp; omega)
  rw [← hX] at hn2
  replace hX := Lib.hid hX
  have hgn : w.heap.size < g := by omega
  have S3 : DecSt w w3 g _ := ⟨hg3, hr3, hb03, hgn⟩
  clear hn1 hb0 hb1 hv hTlt hblt1
  generalize hKd : (b0.toNat : Int) / 2 = kd at *
  generalize hDd : (b0.toNat : Int) % 2 = dd at *
  generalize hTd : (T.toNat : Int) = td at *
  have hcd := candI_of bs h8 b0 hbb.out T X hT3.out.1 hX.out kd dd td hKd hDd hTd
  replace hcd := Lib.hid hcd
  replace hKd := Lib.hid hKd
  replace hDd := Lib.hid hDd
  replace hTd := Lib.hid hTd
  obtain ⟨R, hR⟩ : ∃ R, R = cutA (some ⟨b, off, none⟩) 8 c := ⟨_, rfl⟩
  obtain ⟨n8, hn8⟩ : ∃ n8, n8 + 8 = bs.length := ⟨bs.length - 8, by omega⟩
  have hs8 : ∀ W, (Instr.slice 27 (.slice (some ⟨b, off, none⟩) bs.length c) (some (.int .i64 8)) none none).run Try.prog W = .ok (.slice R n8 (c - 8)) W := fun W => by
    rw [slice_bytes_l _ _ _ _ _ _ (by omega) (by omega), hR, ← hn8]
    simp
  have hBR := fun W (h : Bytes W (some ⟨b, off, none⟩) c bs) => h.cutFrom 8 h8
  rw [← hR] at hBR
  replace hR := Lib.hid hR
  have hk1 : kd ≠ 1 := by rw [← hKd.out, hbb.out]; exact hk0
  have hs : n8 < 8 := by omega
  replace hcd := Lib.hid (hcd.out.trans (if_neg hk1))
  have hn8' : (bs.drop 8).length = n8 := by simp; omega
  have hc3 := hg3.cell
  have hf3 := hg3.frozen
  have hdec : decI bs = none := by
    have := hcd.out
    rw [hn8', if_pos hs] at this
    simp [decI, this]
  replace her : er = 8 := by rw [her.out, hdec]; rfl
  replace hq : q = P7.none_ := by rw [hq.out, hdec]; rfl
  replace her' := Lib.hid her
  replace hq' := Lib.hid hq
  clear her hq
  have hsi : (n8 : Int) < 8 := by omega
  go_wp2_with (first
    | (go_at_call 58; (with_reducible refine (hn2 _ hB3).mono ?_); rintro e wn ⟨rfl, rfl⟩)
    | (with_reducible refine wpList_store_own rfl 30 (.tmp 2) (.tmp 40) rfl w.heap.size #[.int .i64 0, .int .i64 0, .int .i64 0, .int .u32 0, .int .u32 0, .slice none 0 0, .int .u64 0] rfl rfl 30 _ hr3 (by kernel_rfl) rfl (by simp [Value.oneCell']) w.heap.size w hb03 (Nat.le_refl _) ?_; intro w7 hg7 hb07 hz7 ho7))
  have hc7 := hg7.cell
  refine bodyPost_ret (v := .tuple #[.agg #[.int .i64 0, .int .i64 0, .int .i64 0, .int .u32 0, .int .u32 0, .slice none 0 0, .int .u64 0], .int .i64 8]) (by simp [results, Try.results48, go_sem, hc7]) rfl ⟨_, by rw [her'.out], by rw [hq'.out]; exact ⟨_, rfl, NewBytes.nil⟩, hb07⟩
end Go.Proofs.Ytnngknmmokajgaa
