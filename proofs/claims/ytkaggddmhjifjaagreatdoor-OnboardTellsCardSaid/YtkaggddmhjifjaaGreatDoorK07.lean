/- Texts in one: SpanE SpanF SpanG. -/
import Derived.Test.YtkaggddmhjifjaaGreatDoorK06
import Derived.Test.YtkaggddmhjifjaaGreatDoorK04
set_option linter.unusedSimpArgs false
set_option linter.unusedVariables false
namespace Go.Proofs.YtkaggddmhjifjaaGreatDoor
open Go.RowKit Go.Shelf Go.Sort
def laysIdxSp_ren : Go.Shelf.Ren := ⟨fun | 6 => 159 | n => n, fun | 22 => 53 | 23 => 75 | 25 => 167 | 3 => 3 | 0 => 0 | 4 => 4 | n => n, fun | n => n⟩
theorem laysIdxSp : Go.Proofs.SlLaysH0.n6 Tryz.prog laysIdxSp_ren where
 mixed := by kernel_rfl
 f6 := ⟨ "slices.IndexFunc[[]lineside/api.Span,lineside/api.Span]", by decide, Tryz.func159.trans (congrArg some (by kernel_rfl))⟩
 t0 := Tryz.underlying0
 a0 := Tryz.isAgg0
 z0 := Tryz.sizeOf0
 v0 := Tryz.zeroValue0
 t3 := Tryz.underlying3
 a3 := Tryz.isAgg3
 z3 := Tryz.sizeOf3
 v3 := Tryz.zeroValue3
 t4 := Tryz.underlying4
 a4 := Tryz.isAgg4
 z4 := Tryz.sizeOf4
 v4 := Tryz.zeroValue4
 t22 := Tryz.underlying53
 a22 := Tryz.isAgg53
 z22 := Tryz.sizeOf53
 v22 := Tryz.zeroValue53
 t25 := Tryz.underlying167
 a25 := Tryz.isAgg167
 z25 := Tryz.sizeOf167
 v25 := Tryz.zeroValue167
theorem idxSp_k (g : Nat) (eg : ∀ args w, (callFunc g args).run Tryz.prog w = .ok (.enter g args) w) (lb : Array Value) (q : Sp → Bool) (A : Option Addr) (n c : Nat) (xs : List Sp) (w : World) (hp : PredBelow Tryz.prog g lb (fun x => .agg (encSp.enc x).toArray) q w) (hR : RowsAt encSp w A xs) (hn : xs.length = n) (hb : n ≤ 9223372036854775807) :
  Calls Tryz.prog 159 #[.slice A n c, .func (.func g) #[] lb] w fun e w' => e = .returned (.int .i64 (Lib.idxBy (fun _ y => q y) xs default)) ∧ Below w.heap.size w w' := by
 cases n with
 | zero =>
  have : xs = [] := List.length_eq_zero_iff.1 hn
  subst this
  go_enter Tryz.func159, Tryz.ntmps159
  go_wp2
  go_loopg [5, 8] 0 (fun _ _ s8 wr => s8 = .int .i64 0 ∧ Below w.heap.size w wr)
  case atStart => exact ⟨rfl, Below.refl _ _⟩
  case round =>
   obtain ⟨rfl, hw⟩ := hrel
   go_wp2
   go_ret
   exact ⟨rfl, hw⟩
 | succ n =>
  obtain ⟨b, off, rfl, hbs, _⟩ := hR.get (List.getElem?_eq_getElem (show 0 < xs.length by omega))
  have := AnyQ.slices_IndexFunc laysIdxSp 3 Tryz.isAgg75 Tryz.sizeOf75 encSp.enc encSp.len q g lb eg b off (n + 1) c xs w hp (by omega) hb hbs ?_
  ·
   rw [← hn, List.take_length] at this
   rw [← hn]
   exact this
  ·
   intro j hj i u hi
   obtain ⟨b', off', e, _, hc⟩ := hR.get (List.getElem?_eq_getElem hj)
   simp only [Option.some.injEq, Addr.mk.injEq] at e
   obtain ⟨rfl, rfl, -⟩ := e
   rw [getElem!_pos xs j hj] at hi
   exact hc i u hi
theorem idx_first {α : Type} [Inhabited α] (q : α → Bool) : ∀ (bs : List α) (i : Nat), (∃ j x, Lib.idxByFrom (fun _ y => q y) default bs i = ((i + j : Nat) : Int) ∧ bs[j]? = some x ∧ q x = true ∧ ∀ y ∈ bs.take j, q y = false) ∨ (Lib.idxByFrom (fun _ y => q y) default bs i = -1 ∧ ∀ y ∈ bs, q y = false)
 | [], i => .inr ⟨rfl, by simp⟩
 | y :: bs, i => by
  rw [Lib.idxByFrom]
  cases hq : q y with
  | true => exact .inl ⟨0, y, by simp, rfl, hq, by simp⟩
  | false =>
   simp only [Bool.false_eq_true, if_false]
   rcases idx_first q bs (i + 1) with ⟨j, x, h1, h2, h3, h4⟩ | ⟨h1, h2⟩
   ·
    refine .inl ⟨j + 1, x, by rw [h1]; congr 1; omega, by rw [List.getElem?_cons_succ]; exact h2, h3, fun z hz => ?_⟩
    rw [List.take_succ_cons] at hz
    rcases List.mem_cons.1 hz with rfl | hz
    ·
     exact hq
    ·
     exact h4 z hz
   ·
    refine .inr ⟨h1, fun z hz => ?_⟩
    rcases List.mem_cons.1 hz with rfl | hz
    ·
     exact hq
    ·
     exact h2 z hz
set_option maxRecDepth 8000 in
set_option maxHeartbeats 4000000 in
theorem delSp_k (base : Nat) (A : Option Addr) (n c : Nat) (xs : List Sp) (w : World) (ho : OwnRows encSp 75 w base A c xs) (hn : xs.length = n) (hl : n ≤ 1000) : Calls Tryz.prog 99 #[.slice A n c, .func (.func 101) #[] #[]] w fun e w' => e = .returned (.slice A (xs.filter someT).length c) ∧ OwnRows encSp 75 w' base A c (xs.filter someT) ∧ w.grownBy w' (rowB A) := by
 have hidx := idxSp_k 101 enter_norm1 #[] (fun s => !someT s) A n c xs w (fun W x hW => (norm1_k x W).mono fun _ _ h => ⟨h.1, below_then hW h.2⟩) ho.rows hn (by omega)
 unfold Lib.idxBy at hidx
 have HN := Lib.hid hn
 rcases idx_first (fun s : Sp => !someT s) xs 0 with ⟨j0, x0, h1, h2, h3, h4⟩ | ⟨h1, h2⟩
 ·
  rw [h1, Nat.zero_add] at hidx
  have hj0 : j0 < n := by rw [← hn]; exact (List.getElem?_eq_some_iff.1 h2).1
  have hA : A ≠ none := ho.some_ (by omega)
  obtain ⟨g, cur0, rfl, hg0, hgb, _, hcap, _, _⟩ := ho.blk hA
  have hst0 : xs.take j0 = (xs.take (j0 + 1)).filter someT := by
   rw [take_snoc' h2, List.filter_append, List.filter_eq_self.2 (fun y hy => by simpa using h4 y hy)]
   have : someT x0 = false := by simpa using h3
   simp [this]
  have HS := Lib.hid hst0
  rw [hn] at hcap
  have hglt := hgb.lt
  have e1 : ((j0 : Int) == -1) = false := by simp
  have hm := fun s W => norm1_k s W
  clear h1 h2 h3 h4 hst0 hn hgb
  simp only [rowB, Option.map_some]
  go_enter Tryz.func99, Tryz.ntmps99
  go_wp2_with (first
   |(go_at_call 159; (with_reducible refine hidx.mono ?_); rintro e w1 ⟨rfl, hb1⟩; replace ho := ho.below hb1))
  have hgr : w.grownBy w1 (some g) := grown_then (World.grownBy.refl w _) hb1
  clear hidx e1 hb1
  go_loopw [5, 6] (fun s5 s6 wr => ∃ (i j : Nat) (zs : List Sp), s5 = .int .i64 i ∧ s6 = .int .i64 j ∧ i < j ∧ j ≤ n ∧ Hid (zs.length = n ∧ zs.take i = (xs.take j).filter someT ∧ ∀ r, j ≤ r → zs[r]? = xs[r]?) ∧ OwnRows encSp 75 wr base (some ⟨g, 0, none⟩) c zs ∧ w.grownBy wr (some g)) (fun _ s6 _ => n - (intOf s6).toNat)
  case atStart => exact ⟨j0, j0 + 1, xs, rfl, by go_num, by omega, by omega, Lib.hid ⟨HN.out, HS.out, fun _ _ => rfl⟩, ho, hgr⟩
  case round =>
   clear ho hgr
   obtain ⟨i, j, zs, rfl, rfl, hij, hjn, hzs, ho, hgr⟩ := hrel
   by_cases hlt : j < n
   ·
    obtain ⟨y, hy⟩ := get_some hzs.out.1 hlt
    obtain ⟨b', off', e, hbl, hc⟩ := ho.rows.get hy
    simp only [Option.some.injEq, Addr.mk.injEq] at e
    obtain ⟨rfl, rfl, -⟩ := e
    have hyx : xs[j]? = some y := by rw [← hzs.out.2.2 j (Nat.le_refl _)]; exact hy
    have kk0 := hc 0 (.int .i64 y.edge) rfl
    have kk1 := hc 1 (.int .i64 y.lo) rfl
    have kk2 := hc 2 (.int .i64 y.hi) rfl
    simp only [encSp, Nat.zero_add, Nat.add_zero] at kk0 kk1 kk2
    have hmy := hm y
    have hfil : (xs.take (j + 1)).filter someT = (xs.take j).filter someT ++ (if someT y = true then [y] else []) := by
     rw [take_snoc' hyx, List.filter_append]
     cases hs : someT y <;> simp [hs]
    have HF := Lib.hid hfil
    have HY := Lib.hid hy
    have HX := Lib.hid hyx
    have hO1 : Own wr _ [_] := (Own.nil wr).alloc 75 #[.int .i64 y.edge, .int .i64 y.lo, .int .i64 y.hi] _ rfl
    have hcy := hO1.b0.cell
    clear hc hfil hy hyx hm
    cases hs : someT y with
    | false =>
     rw [hs] at hmy HF
     simp only [Bool.false_eq_true, if_false, List.append_nil] at HF
     have HZ := Lib.hid (show zs.length = n ∧ zs.take i = (xs.take (j + 1)).filter someT ∧ ∀ r, j + 1 ≤ r → zs[r]? = xs[r]? from ⟨hzs.out.1, by rw [HF.out]; exact hzs.out.2.1, fun r hr => hzs.out.2.2 r (by omega)⟩)
     clear hs hzs HF
     obtain ⟨y1, y2, y3⟩ := y
     simp only [encSp] at hmy
     go_wp2_with (first
      |(go_at_call 101; (with_reducible refine (hmy _).mono ?_); rintro e w2 ⟨rfl, hb2⟩; replace hO1 := hO1.grow hb2))
     go_roundw
     case rel => exact ⟨i, j + 1, zs, rfl, by go_num, by omega, by omega, HZ, ho.below hO1.below, grown_then hgr hO1.below⟩
     case measure => simp [intOf]; omega
    | true =>
     rw [hs] at hmy HF
     simp only [if_true] at HF
     have HZ := Lib.hid (show (zs.set i y).length = n ∧ (zs.set i y).take (i + 1) = (xs.take (j + 1)).filter someT ∧ ∀ r, j + 1 ≤ r → (zs.set i y)[r]? = xs[r]? from by
      obtain ⟨z1, z2, z3⟩ := hzs.out
      refine ⟨by rw [List.length_set]; exact z1, ?_, fun r hr => ?_⟩
      ·
       rw [HF.out, ← z2, take_snoc' (x := y) (by rw [List.getElem?_set_self (by omega)])]
       rw [List.take_set_of_le (Nat.le_refl _)]
      ·
       rw [List.getElem?_set_ne (by omega)]
       exact z3 r (by omega))
     have hlz := hzs.out.1
     clear hs hzs HF
     obtain ⟨y1, y2, y3⟩ := y
     simp only [encSp] at hmy
     obtain ⟨g', cur, e, hgl, hblk, hsz, _, _, _⟩ := ho.blk (by simp)
     simp only [Option.some.injEq, Addr.mk.injEq] at e
     obtain ⟨e, -, -⟩ := e
     subst e
     have hfit : i * 3 + 3 ≤ cur.size := by
      rw [hsz]
      show i * 3 + 3 ≤ c * 3
      omega
     clear hsz hgl
     have hv0 : cur[i * 3]? = some (cur[i * 3]'(by omega)) := Array.getElem?_eq_getElem _
     have hv1 : cur[i * 3 + 1]? = some (cur[i * 3 + 1]'(by omega)) := Array.getElem?_eq_getElem _
     have hv2 : cur[i * 3 + 2]? = some (cur[i * 3 + 2]'(by omega)) := Array.getElem?_eq_getElem _
     generalize cur[i * 3]'(by omega) = v0 at hv0
     generalize cur[i * 3 + 1]'(by omega) = v1 at hv1
     generalize cur[i * 3 + 2]'(by omega) = v2 at hv2
     have HV := Lib.hid (And.intro hv0 (And.intro hv1 hv2))
     clear hv0 hv1 hv2
     go_wp2_with (first
      |(go_at_call 101; (with_reducible refine (hmy _).mono ?_); rintro e w2 ⟨rfl, hb2⟩; replace hO1 := hO1.grow hb2; have hcy2 := hO1.b0.cell; have hB2 := hblk.below hO1.below hbl; have f0 := hB2.frozen (i * 3); have f1 := hB2.frozen (i * 3 + 1); have f2 := hB2.frozen (i * 3 + 2); have c0 := (hB2.cell (i * 3)).trans HV.out.1; have c1 := (hB2.cell (i * 3 + 1)).trans HV.out.2.1; have c2 := (hB2.cell (i * 3 + 2)).trans HV.out.2.2))
     go_roundw
     case rel =>
      refine ⟨i + 1, j + 1, zs.set i ⟨y1, y2, y3⟩, by go_num, by go_num, by omega, by omega, HZ, ?_, ?_⟩
      ·
       exact (ho.below hO1.below).put (by omega) ⟨y1, y2, y3⟩ hB2 (((hB2.set_ (i * 3) (.int .i64 y1)).set_ (i * 3 + 1) (.int .i64 y2)).set_ (i * 3 + 2) (.int .i64 y3))
      ·
       exact grown_block (grown_then hgr hO1.below) (by simp) (fun k hk => (Below.heap_setCell _ _ _ _ hk).trans ((Below.heap_setCell _ _ _ _ hk).trans (Below.heap_setCell _ _ _ _ hk))) ⟨rfl, rfl, rfl⟩
     case measure => simp [intOf]; omega
   ·
    obtain rfl : j = n := by omega
    obtain ⟨g', cur, e, hgl, hblk, hsz, _, _, _⟩ := ho.blk (by simp)
    simp only [Option.some.injEq, Addr.mk.injEq] at e
    obtain ⟨e, -, -⟩ := e
    subst e
    have hfit : i * 3 + (j - i) * 3 ≤ cur.size := by
     rw [hsz]
     show i * 3 + (j - i) * 3 ≤ c * 3
     omega
    have hsl := fun W => slice_s_l W g j c i (by omega) (by omega) hcap
    have hsh := fun W => slice_s_h W g j c i (by omega)
    have hfin : zs.take i = xs.filter someT := by
     rw [hzs.out.2.1, ← HN.out, List.take_length]
    have hli : (xs.filter someT).length = i := by
     rw [← hfin, List.length_take, hzs.out.1]; omega
    have HFI := Lib.hid (And.intro hfin hli)
    have HL := Lib.hid hzs.out.1
    have HC := Lib.hid hsz
    clear hzs hsz hfin hli
    go_wp2_with (first
     |(with_reducible refine wpList_clear_s rfl (.tmp 38) rfl g (i * 3) (j - i) (c - i) rfl cur hblk (by omega) hfit ?_; intro w2 hg2 hz2 hk2 he2))
    go_ret
    have hcu : i * 3 ≤ cur.toList.length := by simp only [Array.length_toList]; omega
    refine ⟨by rw [HFI.out.2]; rfl, ?_, grown_block hgr hz2 hk2 he2⟩
    rw [← HFI.out.1]
    refine ho.ahead i (by rw [HL.out]; omega) hblk hg2 ?_ ?_
    ·
     simp only [layS, List.size_toArray, List.length_append, List.length_take, List.length_drop, zerosS_len, Array.length_toList]
     omega
    ·
     show ((cur.toList.take (i * 3) ++ zerosS (j - i) ++ cur.toList.drop (i * 3 + (zerosS (j - i)).length)).toArray).toList.take (i * 3) = cur.toList.take (i * 3)
     rw [List.append_assoc, List.take_append_of_le_length (by rw [List.length_take]; omega), List.take_take, Nat.min_self]
 ·
  have hf : xs.filter someT = xs := List.filter_eq_self.2 fun y hy => by simpa using h2 y hy
  rw [h1] at hidx
  rw [hf, hn]
  clear h1 h2 hf
  go_enter Tryz.func99, Tryz.ntmps99
  go_wp2_with (first
   |(go_at_call 159; (with_reducible refine hidx.mono ?_); rintro e w1 ⟨rfl, hb1⟩))
  go_ret
  exact ⟨rfl, ho.below hb1, grown_then (World.grownBy.refl w _) hb1⟩
end Go.Proofs.YtkaggddmhjifjaaGreatDoor
set_option linter.unusedSimpArgs false
set_option linter.unusedVariables false
namespace Go.Proofs.YtkaggddmhjifjaaGreatDoor
open Go.RowKit Go.Shelf Go.Sort
theorem lt_cfSp (a b : Sp) : ltOf cfSp a b = true ↔ (a.edge < b.edge ∨ a.edge = b.edge ∧ a.lo < b.lo) := by
 unfold ltOf cfSp orI cmpI
 simp only [decide_eq_true_eq]
 repeat' split
 all_goals omega
theorem lt_cfSp' (a b : Sp) : ltOf cfSp a b = false ↔ keyLe b a := by
 rw [← Bool.not_eq_true, lt_cfSp]
 unfold keyLe
 omega
theorem swo_cfSp : SWO (ltOf cfSp) := by
 refine ⟨fun x => ?_, fun x y z => ?_, fun x y z => ?_⟩
 ·
  rw [lt_cfSp']; unfold keyLe; omega
 ·
  rw [lt_cfSp, lt_cfSp, lt_cfSp]; omega
 ·
  rw [lt_cfSp', lt_cfSp', lt_cfSp']; unfold keyLe; omega
theorem flatK_toList (d : Array Sp) : (flatK encSp.enc 3 d).toList = encSp.flat d.toList := by
 have hl : (encSp.flat d.toList).length = d.size * 3 := by rw [encSp.flat_length]; rfl
 refine List.ext_getElem? fun t => ?_
 by_cases ht : t < d.size * 3
 ·
  have h3 : t / 3 < d.size := by omega
  have hg : (flatK encSp.enc 3 d)[t]! = (encSp.enc d[t / 3]!)[t % 3]! := get_flatK _ _ _ _ ht
  have hf := encSp.flat_at (xs := d.toList) (i := t / 3) (x := d[t / 3]) (by rw [List.getElem?_eq_getElem (by simpa using h3)]; simp) (t % 3) (show t % 3 < 3 by omega)
  have e3 : t / 3 * encSp.k + t % 3 = t := by show t / 3 * 3 + t % 3 = t; omega
  rw [e3] at hf
  rw [hf, Array.getElem?_toList, Array.getElem?_eq_getElem (by rw [size_flatK]; exact ht)]
  rw [getElem!_pos _ t (by rw [size_flatK]; exact ht), getElem!_pos d _ h3] at hg
  rw [hg]
  have hlt : t % 3 < (encSp.enc d[t / 3]).length := by rw [encSp.len]; show t % 3 < 3; omega
  rw [List.getElem?_eq_getElem hlt, List.getElem!_eq_getElem?_getD, List.getElem?_eq_getElem hlt]
  rfl
 ·
  rw [List.getElem?_eq_none (show (flatK encSp.enc 3 d).toList.length ≤ t by rw [Array.length_toList, size_flatK]; omega), List.getElem?_eq_none (show (encSp.flat d.toList).length ≤ t by rw [hl]; omega)]
theorem holds_sp {w : World} {base g c : Nat} {xs : List Sp} (ho : OwnRows encSp 75 w base (some ⟨g, 0, none⟩) c xs) : HoldsK encSp.enc 3 w g 0 xs.toArray := by
 obtain ⟨g', cur, e, h1, h2, h3, h4, h5, h6⟩ := ho.blk (by simp)
 simp only [Option.some.injEq, Addr.mk.injEq] at e
 obtain ⟨rfl, -, -⟩ := e
 intro j hj
 rw [size_flatK] at hj
 have hk : encSp.k = 3 := rfl
 rw [hk] at h6 h3
 have hsz : (flatK encSp.enc 3 xs.toArray).toList = encSp.flat xs := flatK_toList _
 have hj' : j < xs.length * 3 := by simpa using hj
 refine ⟨?_, by rw [Nat.zero_add]; exact h2.frozen _⟩
 rw [Nat.zero_add, h2.cell, ← Array.getElem?_toList, show cur.toList[j]? = (cur.toList.take (xs.length * 3))[j]? by rw [List.getElem?_take_of_lt hj'], h6, ← hsz, Array.getElem?_toList, Array.getElem?_eq_getElem (by rw [size_flatK]; exact hj), getElem!_pos _ j (by rw [size_flatK]; exact hj)]
 rfl
theorem putRow_blk {w : World} {g : Nat} {t : TypeId} {cur : Array Value} (h : Blk w g t cur) (F : Array Value) : Blk (putRow id w g 0 F) g t (putCells id 0 F cur) := by
 unfold Blk at h ⊢
 simp [putRow, mapBlock, Array.getElem?_modify, h, onCells]
theorem putRow_far (w : World) (g : Nat) (F : Array Value) (k : Nat) (hk : k ≠ g) : (putRow id w g 0 F).heap[k]? = w.heap[k]? := by
 simp [putRow, mapBlock, Array.getElem?_modify, Ne.symm hk]
theorem putCells_size (F cur : Array Value) : (putCells id 0 F cur).size = cur.size := by simp [putCells]
theorem putCells_take (F cur : Array Value) (h : F.size ≤ cur.size) : (putCells id 0 F cur).toList.take F.size = F.toList := by
 refine List.ext_getElem? fun t => ?_
 by_cases ht : t < F.size
 ·
  rw [List.getElem?_take_of_lt ht, Array.getElem?_toList, Array.getElem?_toList]
  simp only [putCells, Array.getElem?_mapIdx, Nat.zero_le, true_and, Nat.zero_add, ht, if_true, Nat.sub_zero, id]
  rw [Array.getElem?_eq_getElem (show t < cur.size by omega), Array.getElem?_eq_getElem ht, getElem!_pos F t ht]
  rfl
 ·
  rw [List.getElem?_eq_none (by rw [List.length_take]; omega), List.getElem?_eq_none (by simpa using ht)]
theorem sortSp_k (base : Nat) (A : Option Addr) (n c : Nat) (xs : List Sp) (w : World) (ho : OwnRows encSp 75 w base A c xs) (hn : xs.length = n) (hl : n ≤ 1000) : Calls Tryz.prog 103 #[.slice A n c, .func (.func 104) #[] #[]] w fun e w' => e = .returned (.tuple #[]) ∧ ∃ ys : List Sp, ys.Perm xs ∧ ys.Pairwise keyLe ∧ OwnRows encSp 75 w' base A c ys ∧ w.grownBy w' (rowB A) := by
 cases n with
 | zero =>
  have : xs = [] := List.length_eq_zero_iff.1 hn
  subst this
  exact (AnyF.slices_SortFunc_none laysSortSp A c _ w).mono fun e w' ⟨h1, h2⟩ => ⟨h1, [], .nil, .nil, h2 ▸ ho, h2 ▸ World.grownBy.refl w _⟩
 | succ n =>
  obtain ⟨g, cur, rfl, hg, hb, hsz, h4, h5, h6⟩ := ho.blk (ho.some_ (by omega))
  have hsort := AnyQ.slices_SortFunc laysSortSp 3 Tryz.isAgg75 Tryz.sizeOf75 encSp.enc encSp.len encSp.one cfSp swo_cfSp 104 #[] g 0 c xs.toArray w enter_norm2
   (fun m os dk _ x y => by
    have := norm2_k x y (sortWorldK encSp.enc 3 w g 0 m dk os)
    exact this) (holds_sp ho) hb.lt (by simp; omega)
  have hs0 : xs.toArray.size = n + 1 := by simpa using hn
  rw [hs0] at hsort
  refine hsort.mono ?_
  rintro e w' ⟨rfl, d', m, os, hp, hs, rfl⟩
  refine ⟨rfl, d'.toList, ?_, ?_, ?_, ?_⟩
  ·
   have := hp.2.2
   have e1 : d'.extract 0 (n + 1) = d' := by rw [← hs0, ← hp.1]; simp
   have e2 : xs.toArray.extract 0 (n + 1) = xs.toArray := by rw [← hs0]; simp
   rw [e1, e2] at this
   simpa using this
  ·
   rw [List.pairwise_iff_getElem]
   intro i j hi hj hij
   have hjj : j < d'.size := by simpa using hj
   have hd : d'.size = n + 1 := by rw [hp.1, hs0]
   have := hs i j (Nat.zero_le _) hij (by omega)
   rw [lt_cfSp', getElem!_pos d' i (by omega), getElem!_pos d' j hjj] at this
   simpa using this
  ·
   have hd : d'.size = n + 1 := by rw [hp.1, hs0]
   have hF : (flatK encSp.enc 3 d').size = (n + 1) * 3 := by rw [size_flatK, hd]
   have hle : (n + 1) * 3 ≤ cur.size := by
    rw [hsz]
    show (n + 1) * 3 ≤ c * 3
    omega
   have hB : Blk (sortWorldK encSp.enc 3 w g 0 m d' os) g 75 (putCells id 0 (flatK encSp.enc 3 d') cur) := by
    have := putRow_blk (show Blk (Sort.ahead w m) g 75 cur from hb) (flatK encSp.enc 3 d')
    have hlt := this.lt
    unfold Blk at this ⊢
    rw [← this]
    show ((putRow id (Sort.ahead w m) g 0 (flatK encSp.enc 3 d')).heap ++ os)[g]? = _
    exact Array.getElem?_append_left hlt
   refine ⟨by rw [encSp.flat_length], .inr ⟨g, c, putCells id 0 (flatK encSp.enc 3 d') cur, by simp, hg, hB, by rw [Array.length_toList, hd]; omega, h5, by rw [putCells_size]; exact hsz, ?_⟩⟩
   rw [Array.length_toList, hd, ← flatK_toList]
   have := putCells_take (flatK encSp.enc 3 d') cur (by omega)
   rw [hF] at this
   exact this
  ·
   refine ⟨rfl, rfl, rfl, ?_, fun k hk hne => ?_⟩
   ·
    show w.heap.size ≤ ((putRow id (Sort.ahead w m) g 0 (flatK encSp.enc 3 d')).heap ++ os).size
    rw [Array.size_append, size_putRow]
    exact Nat.le_add_right _ _
   ·
    show ((putRow id (Sort.ahead w m) g 0 (flatK encSp.enc 3 d')).heap ++ os)[k]? = w.heap[k]?
    rw [Array.getElem?_append_left (by rw [size_putRow]; exact hk), putRow_far _ _ _ _ (fun e => hne (by rw [e]; rfl))]
    rfl
end Go.Proofs.YtkaggddmhjifjaaGreatDoor
set_option linter.unusedSimpArgs false
set_option linter.unusedVariables false
namespace Go.Proofs.YtkaggddmhjifjaaGreatDoor
open Go.RowKit Go.Shelf Go.Sort
theorem set_last {α : Type} {zs : List α} {p : Nat} {o v : α} (h : zs.reverse = o :: (zs.take p).reverse) (hp : p < zs.length) : (zs.set p v).reverse = v :: (zs.take p).reverse := by
 have e : zs = zs.take p ++ [o] := by
  have := congrArg List.reverse h
  simpa using this
 have hl : (zs.take p).length = p := by
  rw [List.length_take]
  omega
 generalize zs.take p = tk at *
 subst e
 subst hl
 simp
theorem set_same {cur : Array Value} {i : Nat} {v : Value} (h : cur[i]? = some v) : cur.setIfInBounds i v = cur := by
 apply Array.ext_getElem?
 intro j
 rw [Array.getElem?_setIfInBounds]
 split
 ·
  rename_i e
  subst e
  split
  ·
   rw [h]
  ·
   rename_i h2
   rw [Array.getElem?_eq_none (by omega)]
 ·
  rfl
def NormSt (o y : Sp) (zs ys : List Sp) (p j : Nat) (xs : List Sp) : Prop := (if o.edge = y.edge ∧ y.lo ≤ o.hi then joinT (⟨o.edge, o.lo, max o.hi y.hi⟩ :: (zs.take p).reverse) (ys.drop (j + 1)) else joinT (y :: o :: (zs.take p).reverse) (ys.drop (j + 1))).reverse = normT xs ∧ zs.reverse = o :: (zs.take p).reverse ∧ zs[p]? = some o
set_option maxRecDepth 8000 in
set_option maxHeartbeats 8000000 in
theorem norm_k (A : Option Addr) (n c : Nat) (xs : List Sp) (w : World) (hr : RowsAt encSp w A xs) (hn : xs.length = n) (hl : n ≤ 1000) : Calls Tryz.prog 53 #[.slice A n c] w fun e w' => ∃ A' c', e = .returned (.slice A' (normT xs).length c') ∧ OwnRows encSp 75 w' w.heap.size A' c' (normT xs) ∧ Below w.heap.size w w' := by
 have hcl := clSp_k A n c xs w hr hn (by omega)
 have hlf : (xs.filter someT).length ≤ 1000 := Nat.le_trans (List.length_filter_le _ _) (by omega)
 have HN := Lib.hid hn
 clear hr hn
 go_enter Tryz.func53, Tryz.ntmps53
 go_wp2_with (first
  |(go_at_call 100; (with_reducible refine hcl.mono ?_); rintro e w1 ⟨A0, c0, rfl, ho1, hb1⟩)
  |(go_at_call 99; (with_reducible refine (delSp_k _ _ _ _ _ _ ho1 HN.out hl).mono ?_); rintro e w2 ⟨rfl, ho2, hg2⟩; have hb2 := below_grown hb1 ho1 hb1.size hg2)
  |(go_at_call 103; (with_reducible refine (sortSp_k _ _ _ _ _ _ ho2 rfl hlf).mono ?_); rintro e w3 ⟨rfl, ys, hperm, hsorted, ho3, hg3⟩; have hb3 := below_grown hb2 ho2 hb2.size hg3))
 have hR : (joinT [] ys).reverse = normT xs := norm_any hperm hsorted
 have hly : ys.length = (xs.filter someT).length := hperm.length_eq
 generalize (xs.filter someT).length = m at *
 have HR := Lib.hid (And.intro hR hly)
 have hys := ho3.rows
 have hB0 := hb3.size
 clear hR hly hcl ho1 ho2 ho3 hg2 hg3 hb1 hb2 hperm hsorted HN
 go_loopw [4, 15] (fun s4 s15 wr => ∃ (A1 : Option Addr) (c1 k j : Nat) (zs : List Sp), s4 = .slice A1 k c1 ∧ s15 = .int .i64 j ∧ j ≤ m ∧ k ≤ j ∧ Hid ((joinT zs.reverse (ys.drop j)).reverse = normT xs) ∧ Hid (zs.length = k) ∧ OwnRows encSp 75 wr w3.heap.size A1 c1 zs ∧ Below w3.heap.size w3 wr) (fun _ s15 _ => m - (intOf s15).toNat)
 case atStart => exact ⟨none, 0, 0, 0, [], rfl, rfl, by omega, by omega, Lib.hid (by simpa using HR.out.1), Lib.hid rfl, OwnRows.nil _ _, Below.refl _ _⟩
 case round =>
  obtain ⟨A1, c1, k, j, zs, rfl, rfl, hjm, hkj, hJ, hK, ho, hb⟩ := hrel
  have hyr := hys.below hb
  by_cases hlt : j < m
  ·
   obtain ⟨y, hy⟩ := get_some HR.out.2 hlt
   obtain ⟨b0, off0, rfl, hbl, hc⟩ := hyr.get hy
   have kk0 := hc 0 (.int .i64 y.edge) rfl
   have kk1 := hc 1 (.int .i64 y.lo) rfl
   have kk2 := hc 2 (.int .i64 y.hi) rfl
   simp only [encSp, Nat.zero_add, Nat.add_zero] at kk0 kk1 kk2
   have hd1 : ys.drop j = y :: ys.drop (j + 1) := by
    obtain ⟨h1, h2⟩ := List.getElem?_eq_some_iff.1 hy
    rw [List.drop_eq_getElem_cons h1, h2]
   have HD := Lib.hid hd1
   have hO1 : Own wr _ [_] := (Own.nil wr).alloc 75 #[.int .i64 y.edge, .int .i64 y.lo, .int .i64 y.hi] _ rfl
   clear hc hy hyr hd1
   obtain ⟨y1, y2, y3⟩ := y
   simp only at kk0 kk1 kk2 hO1
   rcases Nat.eq_zero_or_pos k with hk0 | hk0
   ·
    subst hk0
    have hz : zs = [] := List.length_eq_zero_iff.1 hK.out
    subst hz
    go_wp2_with fail
    replace ho := ho.below hO1.below
    replace hb := hb.trans (hO1.below.mono hb.size)
    generalize hge : (wr.alloc (.cells #[.int .i64 y1, .int .i64 y2, .int .i64 y3] 75)) = W0 at *
    clear hge kk0 kk1 kk2
    apply wp_region_lex
    case hFl => intro u; simp only [List.map, fill, Act.put, List.setIfInBounds_toArray, List.set_cons_zero, List.set_cons_succ, Nat.reduceAdd, Nat.zero_add]; rfl
    case hm => kernel_rfl
    case hB => kernel_rfl
    case hap => kernel_rfl
    repeat (first | (apply Lex.is; · (intro u w' hk hd; simp [Waited, Region.binds, Is] at hd; refine looked_want ?_ ?_; (· (first | rfl | (simp [Region.wanted, yielded, hd]; done))); intro K hK; have hO2 := hO1.grow hk; have hcy := hO2.b0.cell; go_wp2_with (fail); (try simp only [hd] at hK); refine hK _ _ ?_ rfl; first | exact Below.refl _ _ | exact hb3)) | (refine Lex.is (c := undef) ?_ ?_; · (intro u w' hk hd; simp [Waited, Region.binds, Is] at hd; refine looked_skip ?_ rfl; first | (simp [Region.wanted, yielded, hd]; done) | (simp [Region.wanted, yielded, hd, undef]; done))))
    apply Lex.nil
    intro u w' hk hd
    simp only [List.nil_append, List.cons_append] at hd
    have hlast := hd 21 _ rfl
    simp only [Is] at hlast
    clear hd
    simp only [hlast]
    replace ho := ho.below hk
    replace hb := hb.trans (hk.mono hb.size)
    replace hO1 := hO1.grow hk
    have hcy := hO1.b0.cell
    clear hk hlast
    go_wp2_with (at_builtin; refine wpList_app_rows rowSp rfl _ _ rfl w3.heap.size A1 c1 [] 0 rfl rfl (ho.below ((Below.refl _ _).alloc (Nat.le_refl _) _)) (some ⟨w'.heap.size, 0, none⟩) 1 [⟨y1, y2, y3⟩] 1 rfl rfl (rowSp_one (Blk.new _ _ _)) (by omega) (by decide) ((hb.alloc (hb.size) _).size) ?_; intro A2 c2 w5 ho5 hg5 _)
    go_roundw
    case rel =>
     refine ⟨A2, c2, 1, j + 1, [⟨y1, y2, y3⟩], rfl, by go_num, by omega, by omega, Lib.hid ?_, Lib.hid rfl, ho5, below_grown (hb.alloc hb.size _) (ho.below ((Below.refl _ _).alloc (Nat.le_refl _) _)) ((hb.alloc hb.size _).size) hg5⟩
     have := hJ.out
     rw [HD.out] at this
     exact this
    case measure => simp [intOf]; omega
   ·
    obtain ⟨p, hkp⟩ : ∃ p, k = p + 1 := ⟨k - 1, by omega⟩
    have hpk : p < k := by omega
    have hpi : ((k : Int) - 1) = (p : Int) := by omega
    obtain ⟨o, hop⟩ := get_some hK.out hpk
    have hzr : zs.reverse = o :: (zs.take p).reverse := by
     have h1 : zs = zs.take p ++ [o] := by
       rw [← take_snoc' hop, List.take_of_length_le (by rw [hK.out]; omega)]
     rw [List.reverse_eq_iff, List.reverse_cons, List.reverse_reverse]
     exact h1
    have hJ2 := hJ.out
    rw [hzr, HD.out, joinT] at hJ2
    obtain ⟨g, cur, e, hgl, hblk, hsz, h4, h5, h6⟩ := ho.blk (ho.some_ (by rw [hK.out]; omega))
    subst e
    have hcell := fun W (hW : Below wr.heap.size wr W) => ((ho.below hW).rows.get hop)
    clear hkp hk0
    obtain ⟨o1, o2, o3⟩ := o
    simp only at hJ2
    have HZ : NormSt ⟨o1, o2, o3⟩ ⟨y1, y2, y3⟩ zs ys p j xs := ⟨hJ2, hzr, hop⟩
    have H6 := Lib.hid h6
    rw [hK.out] at h4
    clear hzr hJ2 hop h6
    go_wp2_with fail
    replace hcell := fun W (hW : Below (wr.alloc (.cells #[.int .i64 y1, .int .i64 y2, .int .i64 y3] 75)).heap.size (wr.alloc (.cells #[.int .i64 y1, .int .i64 y2, .int .i64 y3] 75)) W) => hcell W (below_then hO1.below hW)
    replace ho := ho.below hO1.below
    replace hblk := hblk.below hO1.below hblk.lt
    replace hb := hb.trans (hO1.below.mono hb.size)
    generalize hge : (wr.alloc (.cells #[.int .i64 y1, .int .i64 y2, .int .i64 y3] 75)) = W0 at *
    have hq : ∀ W, Below W0.heap.size W0 W → W.cell? ⟨g, p * 3, none⟩ = some (.int .i64 o1) ∧ W.cell? ⟨g, p * 3 + 1, none⟩ = some (.int .i64 o2) ∧ W.cell? ⟨g, p * 3 + 2, none⟩ = some (.int .i64 o3) := by
     intro W hW
     obtain ⟨b, off, e, _, hc⟩ := hcell W hW
     simp only [Option.some.injEq, Addr.mk.injEq] at e
     obtain ⟨rfl, rfl, -⟩ := e
     have a0 := hc 0 (.int .i64 o1) rfl
     have a1 := hc 1 (.int .i64 o2) rfl
     have a2 := hc 2 (.int .i64 o3) rfl
     simp only [encSp, Nat.zero_add, Nat.add_zero] at a0 a1 a2
     exact ⟨a0, a1, a2⟩
    clear hge hcell kk0 kk1 kk2
    by_cases hj1 : o1 = y1
    ·
     subst hj1
     by_cases hj2 : y2 ≤ o3
     ·
      have f2 : decide (y2 ≤ o3) = true := by simpa using hj2
      apply wp_region_lex
      case hFl => intro u; simp only [List.map, fill, Act.put, List.setIfInBounds_toArray, List.set_cons_zero, List.set_cons_succ, Nat.reduceAdd, Nat.zero_add]; with_reducible rfl
      case hm => kernel_rfl
      case hB => kernel_rfl
      case hap => kernel_rfl
      repeat (first | (apply Lex.is; · (intro u w' hk hd; simp [Waited, Region.binds, Is] at hd; refine looked_want ?_ ?_; (· (first | rfl | (simp [Region.wanted, yielded, hd]; done))); intro K hK; have hO2 := hO1.grow hk; have hcy := hO2.b0.cell; have m0 := (hq _ hk).1; have m1 := (hq _ hk).2.1; have m2 := (hq _ hk).2.2; go_wp2_with (fail); (try simp only [hd] at hK); refine hK _ _ ?_ rfl; first | exact Below.refl _ _ | exact hb3)) | (refine Lex.is (c := undef) ?_ ?_; · (intro u w' hk hd; simp [Waited, Region.binds, Is] at hd; exact looked_skip (by simp [Region.wanted, yielded, hd]) rfl)))
      apply Lex.nil
      intro u w' hk hd
      simp only [List.nil_append, List.cons_append] at hd
      have hlast := hd 21 _ rfl
      simp only [Is] at hlast
      clear hd
      simp only [hlast]
      replace ho := ho.below hk
      replace hb := hb.trans (hk.mono hb.size)
      replace hO1 := hO1.grow hk
      have hcy := hO1.b0.cell
      replace hq := fun W (hW : Below w'.heap.size w' W) => hq W (below_then hk hW)
      replace hblk := hblk.below hk hblk.lt
      clear hk hlast hcy
      go_wp2_with fail
      apply wp_region_lextu (Below (w').heap.size) (fun W => below_drewN (Below.refl _ _) 1) (fun _ _ _ h1 h2 => h1.trans h2) (WaysB (w').heap.size 999) (fun _ _ _ h => h.1) (fun _ _ => waysB_same _ _ _ _) (fun _ _ => True) (fun _ => trivial) (fun _ _ _ _ _ _ _ => trivial)
      case hFl =>
       intro u
       simp only [List.map, fill, Act.put, List.setIfInBounds_toArray, List.set_cons_zero, List.set_cons_succ, Nat.reduceAdd, Nat.zero_add]
       with_reducible rfl
      case hm => kernel_rfl
      case hB => kernel_rfl
      case hA => kernel_rfl
      case hap => kernel_rfl
      repeat (first
       |(
         apply LexTU.is
         ·
          (
          intro u w' hk hpre hd
          simp [WaitedU, Region.binds, Own1, Is] at hd
          refine lookedT_want ?_ ?_
          ·
           first
           | rfl
           |(simp [Region.wanted, yielded, hd]; done)
          intro K hK
          have hO2 := hO1.grow hk; have hcy := hO2.b0.cell; have m2 := (hq _ hk).2.2
          go_wp2_with (fail)
          try simp only [hd] at hK
          refine hK _ _ ?_ rfl
          first | exact waysB_same _ _ _ _ | exact waysB_below hk.size hb3 (by decide)))
       |(
         refine LexTU.one (BoxB (w').heap.size 75 (#[.int .i64 0] : Array Value).size) ?_ ?_
         ·
          (
          intro u w' hk hpre hd
          clear hd
          refine lookedT_want ?_ ?_
          ·
           first
           | rfl
           |(simp [Region.wanted, yielded]; done)
          intro K hK
          go_wp2_with fail
          exact hK _ _ (waysB_below hk.size ((Below.refl _ _).alloc (Nat.le_refl _) _) (by decide)) ⟨w'.heap.size, _, rfl, hk.size, Blk.new w' 75 (#[.int .i64 0] : Array Value), rfl⟩))
       |(
         refine LexTU.word (FullB (w').heap.size 999 75 (#[.int .i64 0])) ?_ ?_
         ·
          (
          intro u w' hk hpre hd
          simp [WaitedU, Region.binds, Own1, Is] at hd
          obtain ⟨⟨g, cs, hpg, hg, hbk, hsz⟩, hx⟩ := hd
          refine lookedU_want ?_ ?_
          ·
           first
           | rfl
           |(simp [Region.wanted, yielded]; done)
          intro K hK
          have hfar : ∀ k, k ≠ g → (w'.setRow g (#[.int .i64 0])).heap[k]? = w'.heap[k]? := fun k hk => setRow_other w' g k _ hk
          exact wp_store_row 75 _ _ rfl g (#[.int .i64 0]) (by first | exact hpg | (rw [← hpg]; rfl)) (by first | exact hx | exact hx.1 | (rw [← hx.1]; rfl) | (rw [← hx]; rfl)) 75 cs hbk (by kernel_rfl) hsz (by first | (simp [Value.oneCell']; done) | exact trC_ones _ _) (hK undef _
           ⟨below_row (Below.refl _ _) hg _, fun h => absurd rfl h, fun _ => .inr ⟨g, _, cs, (#[.int .i64 0]), hbk, hbk.row _, hsz.symm, by simp, hfar⟩⟩
           ⟨g, by rw [upd_other u undef (by decide)]; exact hpg, hg, hbk.row _⟩))))
      refine LexTU.last (stB_last ?_) ?_
      ·
       simp only [List.nil_append, List.cons_append]
       repeat (refine ⟨?_, ?_⟩; · first | exact stableB_is _ | exact stableB_box | exact stableB_full (fun i hf e => hf _ rfl ⟨999, .data⟩ (by simp) rfl e.symm))
       exact trivial
      intro u w2 hk2 _ hd
      simp only [List.nil_append, List.cons_append] at hd
      refine ⟨rfl, ?_⟩
      intro K hK
      have h11 := hd 11 _ rfl
      have h9 := hd 9 _ rfl
      simp only [Own1, Is] at h11 h9
      clear hd
      have m2 := (hq _ hk2).2.2
      have hbk2 := hblk.below hk2 hblk.lt
      have hfz := hbk2.frozen (p * 3 + 2)
      simp only [h11, h9]
      clear h11 h9
      go_wp2_with fail
      go_roundw
      case rel =>
       have hs := setCells_heap g [.int .i64 (max o3 y3)] (p * 3 + 2) w2
       have hgr : w2.grownBy (w2.setCells g (p * 3 + 2) [.int .i64 (max o3 y3)]) (some g) := ⟨hs.2.2.1, hs.2.2.2.1, hs.2.2.2.2, Nat.le_of_eq hs.1.symm, fun i _ hne => hs.2.1 i (fun e => hne (by rw [e]))⟩
       have ho2 := ho.below hk2
       have hb2 : Below w3.heap.size w3 w2 := hb.trans (hk2.mono hb.size)
       have a0 := (hbk2.cell (p * 3)).symm.trans (hq _ hk2).1
       have a1 := (hbk2.cell (p * 3 + 1)).symm.trans (hq _ hk2).2.1
       have hput : Blk (w2.setCells g (p * 3 + 2) [.int .i64 (max o3 y3)]) g 75 (putAt cur (p * encSp.k) (encSp.enc ⟨o1, o2, max o3 y3⟩)) := by
        have e : putAt cur (p * encSp.k) (encSp.enc ⟨o1, o2, max o3 y3⟩) = cur.setIfInBounds (p * 3 + 2) (.int .i64 (max o3 y3)) := by
         show ((cur.setIfInBounds (p * 3) (.int .i64 o1)).setIfInBounds (p * 3 + 1) (.int .i64 o2)).setIfInBounds (p * 3 + 2) (.int .i64 (max o3 y3)) = _
         rw [set_same a0, set_same a1]
        rw [e]
        exact hbk2.set_ _ _
       refine ⟨some ⟨g, 0, none⟩, c1, k, j + 1, zs.set p ⟨o1, o2, max o3 y3⟩, rfl, by go_num, by omega, by omega, Lib.hid ?_, Lib.hid (by rw [List.length_set, hK.out]), OwnRows.put ho2 (by rw [hK.out]; omega) _ hbk2 hput, below_grown hb2 ho2 hb2.size hgr⟩
       have h1 := HZ.1
       rw [if_pos ⟨rfl, hj2⟩] at h1
       rw [set_last HZ.2.1 (by rw [hK.out]; omega)]
       exact h1
      case measure => simp [intOf]; omega
     ·
      have f2 : decide (y2 ≤ o3) = false := by simpa using hj2
      clear hj2
      apply wp_region_lex
      case hFl => intro u; simp only [List.map, fill, Act.put, List.setIfInBounds_toArray, List.set_cons_zero, List.set_cons_succ, Nat.reduceAdd, Nat.zero_add]; with_reducible rfl
      case hm => kernel_rfl
      case hB => kernel_rfl
      case hap => kernel_rfl
      repeat (first | (apply Lex.is; · (intro u w' hk hd; simp [Waited, Region.binds, Is] at hd; refine looked_want ?_ ?_; (· (first | rfl | (simp [Region.wanted, yielded, hd]; done))); intro K hK; have hO2 := hO1.grow hk; have hcy := hO2.b0.cell; have m0 := (hq _ hk).1; have m1 := (hq _ hk).2.1; have m2 := (hq _ hk).2.2; go_wp2_with (fail); (try simp only [hd] at hK); refine hK _ _ ?_ rfl; first | exact Below.refl _ _ | exact hb3)) | (refine Lex.is (c := undef) ?_ ?_; · (intro u w' hk hd; simp [Waited, Region.binds, Is] at hd; exact looked_skip (by simp [Region.wanted, yielded, hd]) rfl)))
      apply Lex.nil
      intro u w' hk hd
      simp only [List.nil_append, List.cons_append] at hd
      have hlast := hd 21 _ rfl
      simp only [Is] at hlast
      clear hd
      simp only [hlast]
      replace ho := ho.below hk
      replace hb := hb.trans (hk.mono hb.size)
      replace hO1 := hO1.grow hk
      have hcy := hO1.b0.cell
      clear hk hlast
      clear hq hsz hpi hgl h4 h5 hpk hblk H6
      go_wp2_with (at_builtin; refine wpList_app_rows rowSp rfl _ _ rfl w3.heap.size (some ⟨g, 0, none⟩) c1 zs k rfl hK.out (ho.below ((Below.refl _ _).alloc (Nat.le_refl _) _)) (some ⟨w'.heap.size, 0, none⟩) 1 [⟨o1, y2, y3⟩] 1 rfl rfl (rowSp_one (Blk.new _ _ _)) (by omega) (by decide) ((hb.alloc (hb.size) _).size) ?_; intro A2 c2 w5 ho5 hg5 _)
      go_roundw
      case rel =>
       refine ⟨A2, c2, k + 1, j + 1, zs ++ [⟨o1, y2, y3⟩], by go_num, by go_num, by omega, by omega, Lib.hid ?_, Lib.hid (by rw [List.length_append, hK.out]; rfl), ho5, below_grown (hb.alloc hb.size _) (ho.below ((Below.refl _ _).alloc (Nat.le_refl _) _)) ((hb.alloc hb.size _).size) hg5⟩
       have h1 := HZ.1
       have hj2 := of_decide_eq_false f2
       rw [if_neg (by simp only; omega)] at h1
       rw [List.reverse_append, HZ.2.1]
       exact h1
      case measure => simp [intOf]; omega
    ·
     have f1 : (o1 == y1) = false := by simpa using hj1
     apply wp_region_lex
     case hFl => intro u; simp only [List.map, fill, Act.put, List.setIfInBounds_toArray, List.set_cons_zero, List.set_cons_succ, Nat.reduceAdd, Nat.zero_add]; with_reducible rfl
     case hm => kernel_rfl
     case hB => kernel_rfl
     case hap => kernel_rfl
     repeat (first | (apply Lex.is; · (intro u w' hk hd; simp [Waited, Region.binds, Is] at hd; refine looked_want ?_ ?_; (· (first | rfl | (simp [Region.wanted, yielded, hd]; done))); intro K hK; have hO2 := hO1.grow hk; have hcy := hO2.b0.cell; have m0 := (hq _ hk).1; have m1 := (hq _ hk).2.1; have m2 := (hq _ hk).2.2; go_wp2_with (fail); (try simp only [hd] at hK); refine hK _ _ ?_ rfl; first | exact Below.refl _ _ | exact hb3)) | (refine Lex.is (c := undef) ?_ ?_; · (intro u w' hk hd; simp [Waited, Region.binds, Is] at hd; exact looked_skip (by simp [Region.wanted, yielded, hd]) rfl)))
     apply Lex.nil
     intro u w' hk hd
     simp only [List.nil_append, List.cons_append] at hd
     have hlast := hd 21 _ rfl
     simp only [Is] at hlast
     clear hd
     simp only [hlast]
     replace ho := ho.below hk
     replace hb := hb.trans (hk.mono hb.size)
     replace hO1 := hO1.grow hk
     have hcy := hO1.b0.cell
     clear hk hlast
     clear hq hsz hpi hgl h4 h5 hpk hblk H6
     go_wp2_with (at_builtin; refine wpList_app_rows rowSp rfl _ _ rfl w3.heap.size (some ⟨g, 0, none⟩) c1 zs k rfl hK.out (ho.below ((Below.refl _ _).alloc (Nat.le_refl _) _)) (some ⟨w'.heap.size, 0, none⟩) 1 [⟨y1, y2, y3⟩] 1 rfl rfl (rowSp_one (Blk.new _ _ _)) (by omega) (by decide) ((hb.alloc (hb.size) _).size) ?_; intro A2 c2 w5 ho5 hg5 _)
     go_roundw
     case rel =>
      refine ⟨A2, c2, k + 1, j + 1, zs ++ [⟨y1, y2, y3⟩], by go_num, by go_num, by omega, by omega, Lib.hid ?_, Lib.hid (by rw [List.length_append, hK.out]; rfl), ho5, below_grown (hb.alloc hb.size _) (ho.below ((Below.refl _ _).alloc (Nat.le_refl _) _)) ((hb.alloc hb.size _).size) hg5⟩
      have h1 := HZ.1
      rw [if_neg (by simp only; omega)] at h1
      rw [List.reverse_append, HZ.2.1]
      exact h1
     case measure => simp [intOf]; omega
  ·
   obtain rfl : j = m := by omega
   have hz : zs = normT xs := by
    have := hJ.out
    rw [List.drop_of_length_le (by rw [HR.out.2]; exact Nat.le_refl _), joinT.eq_def] at this
    simpa using this
   have hk2 := hK.out
   clear hJ
   go_wp2_with fail
   go_ret
   subst hz
   exact ⟨A1, c1, by rw [hk2]; rfl, ho.base hB0, hb3.trans (hb.mono hB0)⟩
end Go.Proofs.YtkaggddmhjifjaaGreatDoor
