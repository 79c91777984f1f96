/- Texts in one: PduBase PduMay. -/
import Derived.Shelf.Bytes.SlJoin
import Derived.Shelf.Bytes.SlEqualAll
import Derived.Test.YtpjdcpicfkdioaaGreatDoorK28
import Derived.Test.YtpjdcpicfkdioaaGreatDoorK29
import Derived.Test.YtpjdcpicfkdioaaGreatDoorK01
/- The small functions of package pdu: a number in four bytes; bytes joined; the number that bytes are. -/
set_option linter.unusedSimpArgs false
set_option linter.unusedVariables false
namespace Go.Proofs.YtpjdcpicfkdioaaGreatDoor
open Go.RowKit Go.Shelf

def Pd.laysJoin_ren : Go.Shelf.Ren := ⟨fun | 14 => 134 | 15 => 186 | n => n, fun | 26 => 50 | 22 => 47 | 3 => 3 | 4 => 4 | 0 => 0 | 9 => 9 | 20 => 20 | 5 => 5 | n => n, fun | n => n⟩
theorem Pd.laysJoin : Go.Proofs.SlLaysJ.n14 Tryz.prog Pd.laysJoin_ren where
  mixed := by kernel_rfl
  f14 := Tryz.func134.trans (congrArg some (by kernel_rfl))
  f15 := Tryz.func186.trans (congrArg some (by kernel_rfl))
  t0 := Tryz.underlying0
  a0 := Tryz.isAgg0
  z0 := Tryz.sizeOf0
  v0 := Tryz.zeroValue0
  t3 := Tryz.underlying3
  a3 := Tryz.isAgg3
  z3 := Tryz.sizeOf3
  v3 := Tryz.zeroValue3
  t4 := Tryz.underlying4
  a4 := Tryz.isAgg4
  z4 := Tryz.sizeOf4
  v4 := Tryz.zeroValue4
  t9 := Tryz.underlying9
  a9 := Tryz.isAgg9
  z9 := Tryz.sizeOf9
  v9 := Tryz.zeroValue9
  t20 := Tryz.underlying20
  a20 := Tryz.isAgg20
  z20 := Tryz.sizeOf20
  v20 := Tryz.zeroValue20
  t22 := Tryz.underlying47
  a22 := Tryz.isAgg47
  z22 := Tryz.sizeOf47
  v22 := Tryz.zeroValue47
  t26 := Tryz.underlying50
  a26 := Tryz.isAgg50
  z26 := Tryz.sizeOf50
  v26 := Tryz.zeroValue50
  t5 := Tryz.underlying5
  z5 := Tryz.sizeOf5
  i5 := by kernel_rfl
def Pd.laysEqual_ren : Go.Shelf.Ren := ⟨fun | 115 => 87 | n => n, fun | 37 => 47 | 4 => 4 | 9 => 9 | 5 => 5 | n => n, fun | n => n⟩
theorem Pd.laysEqual : Go.Proofs.Lays.nb115 Tryz.prog Pd.laysEqual_ren where
  mixed := by kernel_rfl
  f115 := Tryz.func87.trans (congrArg some (by kernel_rfl))
  t4 := Tryz.underlying4
  a4 := Tryz.isAgg4
  z4 := Tryz.sizeOf4
  v4 := Tryz.zeroValue4
  t9 := Tryz.underlying9
  a9 := Tryz.isAgg9
  z9 := Tryz.sizeOf9
  v9 := Tryz.zeroValue9
  t37 := Tryz.underlying47
  a37 := Tryz.isAgg47
  z37 := Tryz.sizeOf47
  v37 := Tryz.zeroValue47
  t5 := Tryz.underlying5
  a5 := Tryz.isAgg5
  z5 := Tryz.sizeOf5
  v5 := Tryz.zeroValue5

theorem cell_lt' {w : World} {a : Addr} {v : Value} (h : w.cell? a = some v) : a.block < w.heap.size := by
  rcases Nat.lt_or_ge a.block w.heap.size with hl | hl
  · exact hl
  · simp [World.cell?, Array.getElem?_eq_none hl] at h
theorem byteAt_32 (a : BitVec 32) (i : Nat) : UInt8.ofBitVec ((a >>> (8 * i)).setWidth 8) = byteAt a.toNat i := by
  apply UInt8.toNat_inj.1
  rw [byteAt_toNat]
  show ((a >>> (8 * i)).setWidth 8).toNat = _
  rw [BitVec.toNat_setWidth, BitVec.toNat_ushiftRight, Nat.shiftRight_eq_div_pow, Nat.pow_mul]
theorem be4 (a : BitVec 32) : be 4 a.toNat = [UInt8.ofBitVec ((a >>> 24).setWidth 8), UInt8.ofBitVec ((a >>> 16).setWidth 8), UInt8.ofBitVec ((a >>> 8).setWidth 8), UInt8.ofBitVec (a.setWidth 8)] := by
  have h0 := byteAt_32 a 0
  have h1 := byteAt_32 a 1
  have h2 := byteAt_32 a 2
  have h3 := byteAt_32 a 3
  simp only [Nat.mul_zero, Nat.reduceMul, BitVec.ushiftRight_zero] at h0 h1 h2 h3
  simp [be, h0, h1, h2, h3]
theorem word_k (a : BitVec 32) (w : World) : Calls Tryz.prog 133 #[q32 a] w fun e w' => ∃ v, e = .returned v ∧ IsBytes (be 4 a.toNat) v w' ∧ Below w.heap.size w w' := by
  go_enter Tryz.func133, Tryz.ntmps133
  go_wp2
  go_ret
  refine ⟨_, rfl, ⟨some ⟨w.heap.size, 0, none⟩, 4, ?_, ?_, ?_, by decide⟩, (Below.refl _ _).alloc (Nat.le_refl _) _⟩
  · rw [be_length]; rfl
  · rw [be4]
    exact Row.block (Blk.new w _ _)
  · rw [be_length]; exact Nat.le_refl _

theorem IsBytes.holds {bs : List UInt8} {v : Value} {w : World} (h : IsBytes bs v w) : Lib.HoldsBytes w v bs := by
  obtain ⟨A, c, rfl, hB⟩ := h
  refine ⟨A, c, rfl, ?_, ?_⟩
  · rintro rfl
    cases bs with
    | nil => rfl
    | cons x xs => obtain ⟨b, off, e, _⟩ := hB.at_ (k := 0) (by simp); cases e
  · rintro a rfl i x hx
    have hi : i < bs.length := by
      rcases Nat.lt_or_ge i bs.length with h | h
      · exact h
      · rw [List.getElem?_eq_none h] at hx; cases hx
    obtain ⟨b, off, e, _, hc⟩ := hB.at_ hi
    injection e with e
    subst e
    rw [Addr.add_lit, hc]
    have : nth bs i = x := by unfold nth; rw [List.getD_eq_getElem?_getD, hx]; rfl
    rw [this]
    rfl
theorem new_of_fresh {B : Nat} {w : World} {v : Value} {l : List UInt8} (h : Lib.FreshBytes B w v l) : NewBytes B l v w := by
  obtain ⟨g, cap, zs, rfl, hg, hl, hm, hz, hx, hb, hc, hf⟩ := h
  have hgl : 0 < l.length → g < w.heap.size := fun h0 => cell_lt' (hc 0 (by omega))
  refine ⟨_, cap, rfl, ⟨?_, hl, hm⟩, fun h0 => ⟨g, rfl, hg, hgl h0, fun i hi => hf i (by omega)⟩⟩
  intro h0
  rw [cellsOf_length] at h0
  refine ⟨g, 0, rfl, hgl h0, fun j u hu => ?_⟩
  have hj : j < l.length := by
    rcases Nat.lt_or_ge j l.length with h | h
    · exact h
    · rw [List.getElem?_eq_none (by rw [cellsOf_length]; exact h)] at hu; cases hu
  rw [Nat.zero_add, hc j (by omega), ← hu]
  unfold cellsOf
  rw [List.getElem?_map]
  have hjz : j < zs.length := by omega
  have e1 : l[j]? = some (UInt8.ofNat (zs[j]).toNat) := by
    rw [← hb]
    simp [Lib.bytesOf, hj, hjz]
  rw [e1]
  have hr := hx _ (List.getElem_mem hjz)
  rw [List.getD_eq_getElem?_getD, List.getElem?_eq_getElem hjz]
  simp only [Option.getD_some, Option.map_some]
  unfold q8
  congr 2
  simp only [UInt8.toNat_ofNat']
  omega
theorem join_empty (ls : List (List UInt8)) : Lib.join ls [] = ls.flatten := by
  cases ls with
  | nil => rfl
  | cons x r =>
    rw [Lib.join_cons, Lib.joinTail]
    simp
theorem joined_parts (b n c : Nat) (vs : List Value) (ls : List (List UInt8)) (w : World) (hn : vs.length = n) (hl : ls.length = n) (h1 : 1 ≤ n) (hc : n ≤ c) (hcell : ∀ i v, vs[i]? = some v → w.cell? ⟨b, i, none⟩ = some v)
    (hp : ∀ (i : Nat) v l, vs[i]? = some v → ls[i]? = some l → IsBytes l v w) (hlen : Lib.lens ls ≤ 65536) (hn' : n ≤ 65536) :
    Calls Tryz.prog 86 #[.slice (some ⟨b, 0, none⟩) n c] w fun e w' => ∃ v, e = .returned v ∧ NewBytes w.heap.size ls.flatten v w' ∧ Below w.heap.size w w' := by
  have hJ : Calls Tryz.prog 134 #[.slice (some ⟨b, 0, none⟩) n c, .slice none 0 0] w fun e w' => ∃ v, e = .returned v ∧ NewBytes w.heap.size ls.flatten v w' ∧ Below w.heap.size w w' := by
    by_cases h2 : 2 ≤ n
    · have hP : Lib.PartsAt w ⟨b, 0, none⟩ vs ls := ⟨by omega, fun i v hv => by rw [Addr.add_lit, Nat.zero_add]; exact hcell i v hv, fun i v l hv hl => (hp i v l hv hl).holds⟩
      refine (Any.bytes_Join_many Pd.laysJoin b 0 n c vs ls (.slice none 0 0) [] w hl h2 hP hc ⟨none, 0, rfl, fun _ => rfl, fun a h => by cases h⟩ (by omega) (by simp; omega)).mono ?_
      rintro e w' ⟨v, rfl, hf, hb⟩
      refine ⟨v, rfl, ?_, hb⟩
      have := new_of_fresh hf
      rwa [join_empty] at this
    · obtain rfl : n = 1 := by omega
      match vs, ls, hn, hl with
      | [v0], [l0], _, _ =>
        have hv := hp 0 v0 l0 rfl rfl
        have hc0 := hcell 0 v0 rfl
        have hh := hv.holds
        obtain ⟨A, c0, rfl, hB⟩ := hv
        simp only [List.flatten_cons, List.flatten_nil, List.append_nil]
        by_cases h0 : l0.length = 0
        · have hn0 := List.eq_nil_of_length_eq_zero h0
          subst hn0
          refine (Any.bytes_Join_one_empty Pd.laysJoin b 0 c A c0 (.slice none 0 0) w hc0).mono ?_
          rintro e w' ⟨rfl, rfl⟩
          exact ⟨_, rfl, ⟨none, 0, rfl, Bytes.nil _, fun h => absurd h (by simp)⟩, Below.refl _ _⟩
        · obtain ⟨p, cap, ev, _, hcc⟩ := hh
          simp only [Value.slice.injEq, true_and] at ev
          obtain ⟨rfl, rfl⟩ := ev
          obtain ⟨b0, off, rfl, _⟩ := hB.at_ (k := 0) (by omega)
          refine (Any.bytes_Join_one Pd.laysJoin b 0 c _ c0 l0 (.slice none 0 0) w hc0 (fun i x hx => hcc _ rfl i x hx) (by omega) (by simp [Lib.lens] at hlen; omega)).mono ?_
          rintro e w' ⟨v, rfl, hf, hb⟩
          exact ⟨v, rfl, new_of_fresh hf, hb⟩
  go_enter Tryz.func86, Tryz.ntmps86
  go_wp2_with (go_at_call 134; refine hJ.mono ?_; rintro e w' ⟨v, rfl, hv, hb⟩)
  go_ret
  exact ⟨v, rfl, hv, hb⟩
/-- The same, of a block just laid. -/
theorem joined_block (g n : Nat) (vs : Array Value) (ls : List (List UInt8)) (w : World) (hg : Blk w g 47 vs) (hn : vs.size = n) (hl : ls.length = n) (h1 : 1 ≤ n)
    (hp : ∀ (i : Nat) v l, vs.toList[i]? = some v → ls[i]? = some l → IsBytes l v w) (hlen : Lib.lens ls ≤ 65536) (hn' : n ≤ 65536) :
    Calls Tryz.prog 86 #[.slice (some ⟨g, 0, none⟩) n n] w fun e w' => ∃ v, e = .returned v ∧ NewBytes w.heap.size ls.flatten v w' ∧ Below w.heap.size w w' :=
  joined_parts g n n vs.toList ls w (by simpa using hn) hl h1 (Nat.le_refl _) (fun i v hv => by rw [hg.cell]; simpa using hv) hp hlen hn'
set_option maxRecDepth 16000 in
theorem equal_any (A1 : Option Addr) (n1 c1 : Nat) (xs : List UInt8) (A2 : Option Addr) (n2 c2 : Nat) (ys : List UInt8) (w : World) (h1 : n1 = xs.length) (h2 : n2 = ys.length) (hx : Bytes w A1 c1 xs) (hy : Bytes w A2 c2 ys) :
    Calls Tryz.prog 87 #[.slice A1 n1 c1, .slice A2 n2 c2] w fun e w' => e = .returned (.bool (decide (xs = ys))) ∧ w' = w := by
  subst h1; subst h2
  have num : ∀ l : List UInt8, strOfNums (l.map fun b => (b.toNat : Int)) = strOf l := by
    intro l
    unfold strOf
    have := strOfNums_data (l.map fun b => (b.toNat : Int))
    have e : (strOfNums (l.map fun b => (b.toNat : Int))).data.toList = l := by
      rw [this, List.map_map]
      conv => rhs; rw [← List.map_id l]
      apply List.map_congr_left
      intro b _
      apply UInt8.toNat_inj.1
      simp
    cases hs : strOfNums (l.map fun b => (b.toNat : Int)) with
    | mk d =>
      rw [hs] at e
      simp only at e
      rw [← e]
  have c1' := run_bytes_string hx
  have c2' := run_bytes_string hy
  rw [← num] at c1' c2'
  have h := Any.bytes_Equal { Pd.laysEqual with } _ _ _ _ w c1' c2'
  have bo : ∀ l : List UInt8, Lib.bytesOf (l.map fun b => (b.toNat : Int)) = l := by
    intro l
    unfold Lib.bytesOf
    rw [List.map_map]
    conv => rhs; rw [← List.map_id l]
    apply List.map_congr_left
    intro b _
    apply UInt8.toNat_inj.1
    simp
  rw [bo, bo] at h
  refine h.mono ?_
  rintro e w' ⟨rfl, rfl⟩
  refine ⟨?_, rfl⟩
  congr 2
  rw [Bool.eq_iff_iff]
  simp
theorem num_snoc (bs : List UInt8) (b : UInt8) : num (bs ++ [b]) = num bs * 256 + b.toNat := by
  unfold num
  rw [List.foldl_append]
  rfl
theorem num_step (bs : List UInt8) (j : Nat) (h : j < bs.length) : num (bs.take (j + 1)) = num (bs.take j) * 256 + (nth bs j).toNat := by
  rw [List.take_add_one, List.getElem?_eq_getElem h]
  have : nth bs j = bs[j] := by simp [nth, List.getD_eq_getElem?_getD, h]
  rw [this]
  exact num_snoc _ _
theorem num_bits (n : Nat) (b : UInt8) : (BitVec.ofNat 64 n <<< 8 ||| BitVec.ofNat 64 b.toNat) = BitVec.ofNat 64 (n * 256 + b.toNat) := by
  rw [← shl8_add _ _ b.toNat_lt]
  apply BitVec.eq_of_toNat_eq
  rw [BitVec.toNat_add, BitVec.toNat_shiftLeft, BitVec.toNat_ofNat, BitVec.toNat_ofNat, BitVec.toNat_ofNat, Nat.shiftLeft_eq]
  have := b.toNat_lt
  omega
set_option maxHeartbeats 1000000 in
theorem number_k (A : Option Addr) (n c : Nat) (bs : List UInt8) (w : World) (hn : n = bs.length) (hB : Bytes w A c bs) (hlen : bs.length ≤ 65536) :
    Calls Tryz.prog 85 #[.slice A n c] w fun e w' => e = .returned (q64 (BitVec.ofNat 64 (num bs))) ∧ w' = w := by
  subst hn
  go_enter Tryz.func85, Tryz.ntmps85
  go_wp2_with fail
  go_loop [3, 8] (fun x i => ∃ j : Nat, j ≤ bs.length ∧ i = .int .i64 j ∧ x = q64 (BitVec.ofNat 64 (num (bs.take j)))) (fun _ i => bs.length - (intOf i).toNat)
  case atStart => exact ⟨0, Nat.zero_le _, rfl, rfl⟩
  case round =>
    obtain ⟨j, hj, rfl, rfl⟩ := hrel
    by_cases hlt : j < bs.length
    · obtain ⟨b, off, rfl, hlt', hcc⟩ := hB.at_ hlt
      have H1 := Lib.hid ((congrArg (BitVec.ofNat 64) (num_step bs j hlt)).trans (num_bits _ _).symm)
      have hjs : (j : Int) < bs.length := by omega
      go_wp2_with fail
      refine ⟨⟨j + 1, by omega, by go_num, by rw [H1.out]⟩, by simp [intOf]; omega⟩
    · obtain rfl : j = bs.length := by omega
      go_wp2_with fail
      go_ret
      exact ⟨rfl, rfl⟩
end Go.Proofs.YtpjdcpicfkdioaaGreatDoor
/- What may be. -/
set_option linter.unusedSimpArgs false
set_option linter.unusedVariables false
namespace Go.Proofs.YtpjdcpicfkdioaaGreatDoor
open Go.RowKit Go.Shelf

/-- A PDU as the program has it, with this body. -/
def pduV (p : P7) (v : Value) : Array Value := #[.int .i64 p.kind, .int .i64 p.dir, .int .i64 p.train, q32 p.a, q32 p.b, v, q64 p.mac]
theorem len_nil (l : List UInt8) : ((l.length : Int) == 0) = decide (l = []) := by
  rw [Bool.eq_iff_iff]; simp
theorem len_one (l : List UInt8) : ((l.length : Int) == 1) = decide (l.length = 1) := by
  rw [Bool.eq_iff_iff]; simp; omega
set_option maxHeartbeats 2000000 in
theorem may_k (p : P7) (A : Option Addr) (n c : Nat) (w : World) (hn : n = p.body.length) (hlen : p.body.length ≤ 65536) :
    Calls Tryz.prog 131 #[.agg #[.int .i64 p.kind, .int .i64 p.dir, .int .i64 p.train, q32 p.a, q32 p.b, .slice A n c, q64 p.mac]] w fun e w' => e = .returned (.bool (may p)) ∧ Below w.heap.size w w' := by
  subst hn
  obtain ⟨kind, dir, train, a, b, body, mac⟩ := p
  simp only at hlen ⊢
  have hnew : ∀ o, Below w.heap.size w (w.alloc o) := fun o => (Below.refl _ _).alloc (Nat.le_refl _) o
  by_cases g : 0 ≤ train ∧ train < 16777216 ∧ 0 ≤ dir ∧ dir ≤ 1
  · obtain ⟨g1, g2, g3, g4⟩ := g
    go_enter Tryz.func131, Tryz.ntmps131
    go_wp2
    all_goals
      go_ret
      refine ⟨congrArg (fun b => Ending.returned (Value.bool b)) ?_, hnew _⟩
      simp_all [may, MayP]
      try first
        | exact len_nil _
        | exact len_one _
        | (rw [Bool.eq_iff_iff]; simp; omega)
        | omega
  · have hf : may ⟨kind, dir, train, a, b, body, mac⟩ = false := by
      unfold may
      rw [decide_eq_false_iff_not]
      intro h
      exact g ⟨h.1, h.2.1, h.2.2.1, h.2.2.2.1⟩
    rw [hf]
    go_enter Tryz.func131, Tryz.ntmps131
    go_wp2
    all_goals
      go_ret
      refine ⟨congrArg (fun b => Ending.returned (Value.bool b)) ?_, hnew _⟩
      simp_all [may, MayP]
      try first
        | exact len_nil _
        | exact len_one _
        | (rw [Bool.eq_iff_iff]; simp; omega)
        | omega
end Go.Proofs.YtpjdcpicfkdioaaGreatDoor
