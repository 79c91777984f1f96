/- Texts in one: PduBase PduMay. -/
import Derived.Shelf.Bytes.SlJoin
import Derived.Shelf.Bytes.SlEqualAll
import Derived.Test.YtkaggddmhjifjaaGreatDoorK20
import Derived.Test.YtkaggddmhjifjaaGreatDoorK01
set_option linter.unusedSimpArgs false
set_option linter.unusedVariables false
namespace Go.Proofs.YtkaggddmhjifjaaGreatDoor
open Go.RowKit Go.Shelf
def Pd.laysJoin_ren : Go.Shelf.Ren := ⟨fun | 14 => 186 | 15 => 235 | n => n, fun | 26 => 67 | 22 => 47 | 3 => 3 | 4 => 4 | 0 => 0 | 9 => 9 | 20 => 20 | 5 => 5 | n => n, fun | n => n⟩
theorem Pd.laysJoin : Go.Proofs.SlLaysJ.n14 Tryz.prog Pd.laysJoin_ren where
 mixed := by kernel_rfl
 f14 := Tryz.func186.trans (congrArg some (by kernel_rfl))
 f15 := Tryz.func235.trans (congrArg some (by kernel_rfl))
 t0 := Tryz.underlying0
 a0 := Tryz.isAgg0
 z0 := Tryz.sizeOf0
 v0 := Tryz.zeroValue0
 t3 := Tryz.underlying3
 a3 := Tryz.isAgg3
 z3 := Tryz.sizeOf3
 v3 := Tryz.zeroValue3
 t4 := Tryz.underlying4
 a4 := Tryz.isAgg4
 z4 := Tryz.sizeOf4
 v4 := Tryz.zeroValue4
 t9 := Tryz.underlying9
 a9 := Tryz.isAgg9
 z9 := Tryz.sizeOf9
 v9 := Tryz.zeroValue9
 t20 := Tryz.underlying20
 a20 := Tryz.isAgg20
 z20 := Tryz.sizeOf20
 v20 := Tryz.zeroValue20
 t22 := Tryz.underlying47
 a22 := Tryz.isAgg47
 z22 := Tryz.sizeOf47
 v22 := Tryz.zeroValue47
 t26 := Tryz.underlying67
 a26 := Tryz.isAgg67
 z26 := Tryz.sizeOf67
 v26 := Tryz.zeroValue67
 t5 := Tryz.underlying5
 z5 := Tryz.sizeOf5
 i5 := by kernel_rfl
theorem cell_lt' {w : World} {a : Addr} {v : Value} (h : w.cell? a = some v) : a.block < w.heap.size := by
 rcases Nat.lt_or_ge a.block w.heap.size with hl | hl
 ·
  exact hl
 ·
  simp [World.cell?, Array.getElem?_eq_none hl] at h
theorem byteAt_32 (a : BitVec 32) (i : Nat) : UInt8.ofBitVec ((a >>> (8 * i)).setWidth 8) = byteAt a.toNat i := by
 apply UInt8.toNat_inj.1
 rw [byteAt_toNat]
 show ((a >>> (8 * i)).setWidth 8).toNat = _
 rw [BitVec.toNat_setWidth, BitVec.toNat_ushiftRight, Nat.shiftRight_eq_div_pow, Nat.pow_mul]
theorem be4 (a : BitVec 32) : be 4 a.toNat = [UInt8.ofBitVec ((a >>> 24).setWidth 8), UInt8.ofBitVec ((a >>> 16).setWidth 8), UInt8.ofBitVec ((a >>> 8).setWidth 8), UInt8.ofBitVec (a.setWidth 8)] := by
 have h0 := byteAt_32 a 0
 have h1 := byteAt_32 a 1
 have h2 := byteAt_32 a 2
 have h3 := byteAt_32 a 3
 simp only [Nat.mul_zero, Nat.reduceMul, BitVec.ushiftRight_zero] at h0 h1 h2 h3
 simp [be, h0, h1, h2, h3]
theorem IsBytes.holds {bs : List UInt8} {v : Value} {w : World} (h : IsBytes bs v w) : Lib.HoldsBytes w v bs := by
 obtain ⟨A, c, rfl, hB⟩ := h
 refine ⟨A, c, rfl, ?_, ?_⟩
 ·
  rintro rfl
  cases bs with
  | nil => rfl
  | cons x xs => obtain ⟨b, off, e, _⟩ := hB.at_ (k := 0) (by simp); cases e
 ·
  rintro a rfl i x hx
  have hi : i < bs.length := by
   rcases Nat.lt_or_ge i bs.length with h | h
   ·
    exact h
   ·
    rw [List.getElem?_eq_none h] at hx; cases hx
  obtain ⟨b, off, e, _, hc⟩ := hB.at_ hi
  injection e with e
  subst e
  rw [Addr.add_lit, hc]
  have : nth bs i = x := by unfold nth; rw [List.getD_eq_getElem?_getD, hx]; rfl
  rw [this]
  rfl
theorem new_of_fresh {B : Nat} {w : World} {v : Value} {l : List UInt8} (h : Lib.FreshBytes B w v l) : NewBytes B l v w := by
 obtain ⟨g, cap, zs, rfl, hg, hl, hm, hz, hx, hb, hc, hf⟩ := h
 have hgl : 0 < l.length → g < w.heap.size := fun h0 => cell_lt' (hc 0 (by omega))
 refine ⟨_, cap, rfl, ⟨?_, hl, hm⟩, fun h0 => ⟨g, rfl, hg, hgl h0, fun i hi => hf i (by omega)⟩⟩
 intro h0
 rw [cellsOf_length] at h0
 refine ⟨g, 0, rfl, hgl h0, fun j u hu => ?_⟩
 have hj : j < l.length := by
  rcases Nat.lt_or_ge j l.length with h | h
  ·
   exact h
  ·
   rw [List.getElem?_eq_none (by rw [cellsOf_length]; exact h)] at hu; cases hu
 rw [Nat.zero_add, hc j (by omega), ← hu]
 unfold cellsOf
 rw [List.getElem?_map]
 have hjz : j < zs.length := by omega
 have e1 : l[j]? = some (UInt8.ofNat (zs[j]).toNat) := by
  rw [← hb]
  simp [Lib.bytesOf, hj, hjz]
 rw [e1]
 have hr := hx _ (List.getElem_mem hjz)
 rw [List.getD_eq_getElem?_getD, List.getElem?_eq_getElem hjz]
 simp only [Option.getD_some, Option.map_some]
 unfold q8
 congr 2
 simp only [UInt8.toNat_ofNat']
 omega
theorem join_empty (ls : List (List UInt8)) : Lib.join ls [] = ls.flatten := by
 cases ls with
 | nil => rfl
 | cons x r =>
  rw [Lib.join_cons, Lib.joinTail]
  simp
theorem joined_parts (b n c : Nat) (vs : List Value) (ls : List (List UInt8)) (w : World) (hn : vs.length = n) (hl : ls.length = n) (h1 : 1 ≤ n) (hc : n ≤ c) (hcell : ∀ i v, vs[i]? = some v → w.cell? ⟨b, i, none⟩ = some v)
  (hp : ∀ (i : Nat) v l, vs[i]? = some v → ls[i]? = some l → IsBytes l v w) (hlen : Lib.lens ls ≤ 65536) (hn' : n ≤ 65536) :
  Calls Tryz.prog 141 #[.slice (some ⟨b, 0, none⟩) n c] w fun e w' => ∃ v, e = .returned v ∧ NewBytes w.heap.size ls.flatten v w' ∧ Below w.heap.size w w' := by
 have hJ : Calls Tryz.prog 186 #[.slice (some ⟨b, 0, none⟩) n c, .slice none 0 0] w fun e w' => ∃ v, e = .returned v ∧ NewBytes w.heap.size ls.flatten v w' ∧ Below w.heap.size w w' := by
  by_cases h2 : 2 ≤ n
  ·
   have hP : Lib.PartsAt w ⟨b, 0, none⟩ vs ls := ⟨by omega, fun i v hv => by rw [Addr.add_lit, Nat.zero_add]; exact hcell i v hv, fun i v l hv hl => (hp i v l hv hl).holds⟩
   refine (Any.bytes_Join_many Pd.laysJoin b 0 n c vs ls (.slice none 0 0) [] w hl h2 hP hc ⟨none, 0, rfl, fun _ => rfl, fun a h => by cases h⟩ (by omega) (by simp; omega)).mono ?_
   rintro e w' ⟨v, rfl, hf, hb⟩
   refine ⟨v, rfl, ?_, hb⟩
   have := new_of_fresh hf
   rwa [join_empty] at this
  ·
   obtain rfl : n = 1 := by omega
   match vs, ls, hn, hl with
   | [v0], [l0], _, _ =>
    have hv := hp 0 v0 l0 rfl rfl
    have hc0 := hcell 0 v0 rfl
    have hh := hv.holds
    obtain ⟨A, c0, rfl, hB⟩ := hv
    simp only [List.flatten_cons, List.flatten_nil, List.append_nil]
    by_cases h0 : l0.length = 0
    ·
     have hn0 := List.eq_nil_of_length_eq_zero h0
     subst hn0
     refine (Any.bytes_Join_one_empty Pd.laysJoin b 0 c A c0 (.slice none 0 0) w hc0).mono ?_
     rintro e w' ⟨rfl, rfl⟩
     exact ⟨_, rfl, ⟨none, 0, rfl, Bytes.nil _, fun h => absurd h (by simp)⟩, Below.refl _ _⟩
    ·
     obtain ⟨p, cap, ev, _, hcc⟩ := hh
     simp only [Value.slice.injEq, true_and] at ev
     obtain ⟨rfl, rfl⟩ := ev
     obtain ⟨b0, off, rfl, _⟩ := hB.at_ (k := 0) (by omega)
     refine (Any.bytes_Join_one Pd.laysJoin b 0 c _ c0 l0 (.slice none 0 0) w hc0 (fun i x hx => hcc _ rfl i x hx) (by omega) (by simp [Lib.lens] at hlen; omega)).mono ?_
     rintro e w' ⟨v, rfl, hf, hb⟩
     exact ⟨v, rfl, new_of_fresh hf, hb⟩
 go_enter Tryz.func141, Tryz.ntmps141
 go_wp2_with (go_at_call 186; refine hJ.mono ?_; rintro e w' ⟨v, rfl, hv, hb⟩)
 go_ret
 exact ⟨v, rfl, hv, hb⟩
theorem joined_block (g n : Nat) (vs : Array Value) (ls : List (List UInt8)) (w : World) (hg : Blk w g 47 vs) (hn : vs.size = n) (hl : ls.length = n) (h1 : 1 ≤ n)
  (hp : ∀ (i : Nat) v l, vs.toList[i]? = some v → ls[i]? = some l → IsBytes l v w) (hlen : Lib.lens ls ≤ 65536) (hn' : n ≤ 65536) :
  Calls Tryz.prog 141 #[.slice (some ⟨g, 0, none⟩) n n] w fun e w' => ∃ v, e = .returned v ∧ NewBytes w.heap.size ls.flatten v w' ∧ Below w.heap.size w w' :=
 joined_parts g n n vs.toList ls w (by simpa using hn) hl h1 (Nat.le_refl _) (fun i v hv => by rw [hg.cell]; simpa using hv) hp hlen hn'
end Go.Proofs.YtkaggddmhjifjaaGreatDoor
set_option linter.unusedSimpArgs false
set_option linter.unusedVariables false
namespace Go.Proofs.YtkaggddmhjifjaaGreatDoor
open Go.RowKit Go.Shelf
theorem len_nil (l : List UInt8) : ((l.length : Int) == 0) = decide (l = []) := by
 rw [Bool.eq_iff_iff]; simp
theorem len_one (l : List UInt8) : ((l.length : Int) == 1) = decide (l.length = 1) := by
 rw [Bool.eq_iff_iff]; simp; omega
set_option maxHeartbeats 2000000 in
theorem may_k (p : P7) (A : Option Addr) (n c : Nat) (w : World) (hn : n = p.body.length) (hlen : p.body.length ≤ 65536) :
  Calls Tryz.prog 183 #[.agg #[.int .i64 p.kind, .int .i64 p.dir, .int .i64 p.train, q32 p.a, q32 p.b, .slice A n c, q64 p.mac]] w fun e w' => e = .returned (.bool (may p)) ∧ Below w.heap.size w w' := by
 subst hn
 obtain ⟨kind, dir, train, a, b, body, mac⟩ := p
 simp only at hlen ⊢
 have hnew : ∀ o, Below w.heap.size w (w.alloc o) := fun o => (Below.refl _ _).alloc (Nat.le_refl _) o
 by_cases g : 0 ≤ train ∧ train < 16777216 ∧ 0 ≤ dir ∧ dir ≤ 1
 ·
  obtain ⟨g1, g2, g3, g4⟩ := g
  go_enter Tryz.func183, Tryz.ntmps183
  go_wp2
  all_goals
   go_ret
   refine ⟨congrArg (fun b => Ending.returned (Value.bool b)) ?_, hnew _⟩
   simp_all [may, MayP]
   try first
    | exact len_nil _
    | exact len_one _
    |(rw [Bool.eq_iff_iff]; simp; omega)
    | omega
 ·
  have hf : may ⟨kind, dir, train, a, b, body, mac⟩ = false := by
   unfold may
   rw [decide_eq_false_iff_not]
   intro h
   exact g ⟨h.1, h.2.1, h.2.2.1, h.2.2.2.1⟩
  rw [hf]
  go_enter Tryz.func183, Tryz.ntmps183
  go_wp2
  all_goals
   go_ret
   refine ⟨congrArg (fun b => Ending.returned (Value.bool b)) ?_, hnew _⟩
   simp_all [may, MayP]
   try first
    | exact len_nil _
    | exact len_one _
    |(rw [Bool.eq_iff_iff]; simp; omega)
    | omega
end Go.Proofs.YtkaggddmhjifjaaGreatDoor
