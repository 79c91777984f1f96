/- link.copied: a link that shares nothing. -/
import Derived.Test.YtiloammjejggjaaLinkOwn
import Derived.Test.YtiloammjejggjaaLinkSmall
set_option linter.unusedSimpArgs false
set_option linter.unusedVariables false
namespace Go.Proofs.Ytiloammjejggjaa
open Go.RowKit

/-- Bytes that lie not in this block. -/
def IsBytesO (R : Option Nat) (bs : List UInt8) (v : Value) (w : World) : Prop := ∃ A c, v = .slice A bs.length c ∧ Bytes w A c bs ∧ (R.isSome = true → rowOf A ≠ R)
theorem IsBytesO.is {R : Option Nat} {bs : List UInt8} {v : Value} {w : World} (h : IsBytesO R bs v w) : IsBytes bs v w := by
  obtain ⟨A, c, e, hB, _⟩ := h
  exact ⟨A, c, e, hB⟩
theorem IsBytesO.grow {R : Option Nat} {bs : List UInt8} {v : Value} {w w' : World} (h : IsBytesO R bs v w) (hb : Below w.heap.size w w') : IsBytesO R bs v w' := by
  obtain ⟨A, c, e, hB, hn⟩ := h
  exact ⟨A, c, e, hB.below hb, hn⟩
theorem Bytes.off {w w' : World} {A : Option Addr} {c g : Nat} {bs : List UInt8} (h : Bytes w A c bs) (hg : rowOf A ≠ some g) (hz : w'.heap.size = w.heap.size) (hk : ∀ k, k ≠ g → w'.heap[k]? = w.heap[k]?) : Bytes w' A c bs := by
  refine ⟨fun h0 => ?_, h.cap, h.max⟩
  obtain ⟨b, off, rfl, hlt, hc⟩ := h.row h0
  have hne : b ≠ g := fun e => hg (by rw [← e]; rfl)
  exact ⟨b, off, rfl, by omega, fun j u hu => (World.cell?_of_block (hk b hne)).trans (hc j u hu)⟩
theorem IsBytesO.off {g : Nat} {bs : List UInt8} {v : Value} {w w' : World} (h : IsBytesO (some g) bs v w) (hz : w'.heap.size = w.heap.size) (hk : ∀ k, k ≠ g → w'.heap[k]? = w.heap[k]?) : IsBytesO (some g) bs v w' := by
  obtain ⟨A, c, e, hB, hn⟩ := h
  exact ⟨A, c, e, hB.off (hn rfl) hz hk, hn⟩
theorem IsBytes.away {bs : List UInt8} {v : Value} {w : World} {R : Option Nat} (h : IsBytes bs v w) (h0 : 1 ≤ bs.length) (hR : ∀ g, R = some g → w.heap.size ≤ g) : IsBytesO R bs v w := by
  obtain ⟨A, c, e, hB⟩ := h
  refine ⟨A, c, e, hB, fun hs hA => ?_⟩
  obtain ⟨b, off, rfl, hlt, _⟩ := hB.at_ (k := 0) (by omega)
  obtain ⟨g, rfl⟩ := Option.isSome_iff_exists.1 hs
  have := hR g rfl
  simp [rowOf] at hA
  omega
theorem IsBytes.away' {bs : List UInt8} {v : Value} {w w' : World} {R : Option Nat} (h : IsBytes bs v w) (h0 : 1 ≤ bs.length) (hb : Below w.heap.size w w') (hR : ∀ g, R = some g → w.heap.size ≤ g) : IsBytesO R bs v w' := (h.away h0 hR).grow hb
theorem Own.cell0 {w W : World} {L : List Bk} {g : Nat} {t : TypeId} {cs : Array Value} (h : Own w W ((g, t, cs) :: L)) (i : Nat) (v : Value) : Own w (W.setCell ⟨g, i, none⟩ v) ((g, t, cs.setIfInBounds i v) :: L) :=
  Own.with (L1 := []) h (h.below.setCell (p := ⟨g, i, none⟩) (Own.lo (L1 := []) h) v) (h.b0.set_ i v) (fun k hk => Below.heap_setCell W ⟨g, i, none⟩ v k hk)
theorem Own.above {w W W' : World} {L : List Bk} {B : Nat} (h : Own w W L) (hb : Below B W W') (hL : ∀ x ∈ L, x.1 < B) (hB : w.heap.size ≤ B := by omega) : Own w W' L :=
  ⟨h.below.trans (hb.mono hB), fun x hx => ⟨(h.blk x hx).1, (h.blk x hx).2.below hb (hL x hx)⟩, h.nodup⟩
theorem set_same {α : Type} {l : List α} {k : Nat} {x : α} (h : l[k]? = some x) : l.set k x = l := by
  obtain ⟨hk, rfl⟩ := List.getElem?_eq_some_iff.1 h
  exact List.set_getElem_self hk
theorem NewBytes.away {base : Nat} {bs : List UInt8} {v : Value} {w : World} {R : Option Nat} (h : NewBytes base bs v w) (h0 : 1 ≤ bs.length) (hR : ∀ g, R = some g → g < base) : IsBytesO R bs v w := by
  obtain ⟨A, c, e, hB, hf⟩ := h
  obtain ⟨k, rfl, hk, _⟩ := hf (by omega)
  refine ⟨_, c, e, hB, fun hs hA => ?_⟩
  obtain ⟨g, rfl⟩ := Option.isSome_iff_exists.1 hs
  have := hR g rfl
  simp [rowOf] at hA
  omega
theorem flat_set {xs : List (Wt × Value)} {k : Nat} {x : Wt} {v : Value} (h : xs[k]? = some (x, v)) (u : Value) : flat (xs.set k (x, u)) = (flat xs).set (k * 4 + 3) u := by
  induction xs generalizing k with
  | nil => simp at h
  | cons p ys ih =>
    cases k with
    | zero =>
      simp only [List.getElem?_cons_zero, Option.some.injEq] at h
      subst h
      rfl
    | succ k =>
      rw [List.set_cons_succ, flat_cons, flat_cons, ih (k := k) (by simpa using h), show (k + 1) * 4 + 3 = (wcell p).length + (k * 4 + 3) by simp only [wcell, List.length_cons, List.length_nil]; omega, List.set_append_right _ _ (by omega)]
      simp
/-- Messages in a row of the call's own, their bodies elsewhere. -/
structure OwnWs (w : World) (base : Nat) (A : Option Addr) (c : Nat) (xs : List (Wt × Value)) : Prop where
  own : OwnW w base A c xs
  body : ∀ p ∈ xs, IsBytesO (rowOf A) p.1.body p.2 w
theorem OwnWs.grow {w w' : World} {base c : Nat} {A : Option Addr} {xs : List (Wt × Value)} (h : OwnWs w base A c xs) (hb : Below w.heap.size w w') : OwnWs w' base A c xs := ⟨h.own.below hb, fun p hp => (h.body p hp).grow hb⟩
theorem OwnWs.waits {w : World} {base c : Nat} {A : Option Addr} {xs : List (Wt × Value)} (h : OwnWs w base A c xs) : WaitsAt w A xs := h.own.waits fun p hp => (h.body p hp).is
theorem OwnWs.mono {w : World} {base base' c : Nat} {A : Option Addr} {xs : List (Wt × Value)} (h : OwnWs w base A c xs) (hb : base' ≤ base) : OwnWs w base' A c xs := ⟨h.own.mono hb, h.body⟩
/-- Blocks below the row, and blocks elsewhere, may turn. -/
theorem OwnWs.far {w w' : World} {base c : Nat} {A : Option Addr} {xs : List (Wt × Value)} (h : OwnWs w base A c xs) {g : Nat} {t : TypeId} {cs : Array Value} (hg : Blk w g t cs) (hn : cs.all (fun v => !is8 v) = true) (hlt : g < base) (hz : w'.heap.size = w.heap.size) (hk : ∀ k, k ≠ g → w'.heap[k]? = w.heap[k]?) : OwnWs w' base A c xs := by
  refine ⟨⟨h.own.1, ?_⟩, fun p hp => ?_⟩
  · rcases h.own.2 with h' | ⟨k, cap, cur, e, h1, h2, h3⟩
    · exact .inl h'
    · exact .inr ⟨k, cap, cur, e, h1, (hk k (by omega)).trans h2, h3⟩
  · obtain ⟨Ab, cb, e, hB, ho⟩ := h.body p hp
    exact ⟨Ab, cb, e, hB.apart hg hn hz hk, ho⟩
/-- A body stored in its place. -/
theorem OwnWs.body_ {w : World} {base c g k : Nat} {xs : List (Wt × Value)} {x : Wt} {v u : Value} (h : OwnWs w base (some ⟨g, 0, none⟩) c xs) (hk : xs[k]? = some (x, v)) (hu : IsBytesO (some g) x.body u w) :
    OwnWs (w.setCell ⟨g, k * 4 + 3, none⟩ u) base (some ⟨g, 0, none⟩) c (xs.set k (x, u)) := by
  have hz : (w.setCell ⟨g, k * 4 + 3, none⟩ u).heap.size = w.heap.size := by simp [World.setCell]
  have hf : ∀ j, j ≠ g → (w.setCell ⟨g, k * 4 + 3, none⟩ u).heap[j]? = w.heap[j]? := fun j hj => Below.heap_setCell w ⟨g, k * 4 + 3, none⟩ u j hj
  refine ⟨?_, fun p hp => ?_⟩
  · have := (World.ownsRow.stored h.own (k * 4 + 3) u).1
    unfold OwnW
    rw [List.length_set, flat_set hk]
    exact this
  · rcases List.mem_or_eq_of_mem_set hp with hp | rfl
    · exact (h.body p hp).off hz hf
    · exact hu.off hz hf
theorem wp_store_cell1 {P : Program} {o : Oper} {a : Act} {w : World} {K : Act → World → Prop} {Q : Exit → Act → World → Prop} (ty : TypeId) (x y : Operand) (ho : o.op = .store ty x y) (g i : Nat) (hx : a.eval x = .pointer (some ⟨g, i, none⟩)) (v : Value) (hy : a.eval y = v)
    (t : TypeId) (old : Array Value) (hg : Blk w g t old) (hil : i < old.size) (hi : (P.info? ty).map (·.size) = some 1) (h1 : v.oneCell' = true) (h : K (a.put o.dst undef) (w.setCell ⟨g, i, none⟩ v)) : o.wp P a w K Q := by
  have hrun := run_storeVar_cell (P := P) w g i t ty old v hg hil hi h1
  unfold Oper.wp execOp
  simp only [ho, hx, hy, Instr.storeAt, Instr.sureAddr, Sem.run_bind, Sem.run_pure, Result.andThen_ok, hrun]
  exact h
/-- What copied hands back. -/
def Copied (ws : List Wt) (x1 x2 x3 x4 : Int) (w : World) (e : Ending) (w' : World) : Prop := ∃ A' c' xs', e = .returned (.agg #[.int .i64 x1, .int .i64 x2, .int .i64 x3, .int .i64 x4, .slice A' ws.length c']) ∧ xs'.map (·.1) = ws ∧ OwnWs w' w.heap.size A' c' xs' ∧ Below w.heap.size w w'
set_option maxHeartbeats 4000000 in
theorem lkcopied_k (l : Lk) (A : Option Addr) (n c : Nat) (xs : List (Wt × Value)) (w : World) (hx : xs.map (·.1) = l.waits) (hn : l.waits.length = n) (hW : WaitsAt w A xs) (hlen : n ≤ 8) (hsz : ∀ x ∈ l.waits, 1 ≤ x.body.length ∧ x.body.length ≤ 1023) :
    Calls Try.prog 28 #[.agg #[.int .i64 l.period, .int .i64 l.most, .int .i64 l.quiet, .int .i64 l.heard, .slice A n c]] w (Copied l.waits l.period l.most l.quiet l.heard w) := by
  obtain ⟨ws, hws⟩ : ∃ ws, ws = l.waits := ⟨_, rfl⟩
  rw [← hws] at hx hn hsz ⊢
  clear hws
  generalize l.period = x1 at *
  generalize l.most = x2 at *
  generalize l.quiet = x3 at *
  generalize l.heard = x4 at *
  have hO : Own w _ [_, _] := Own.start2 w 25 25 #[.int .i64 x1, .int .i64 x2, .int .i64 x3, .int .i64 x4, .slice A n c] #[.int .i64 0, .int .i64 0, .int .i64 0, .int .i64 0, .slice none 0 0]
  have hcl := hO.b0.cell
  have HN := Lib.hid hn
  have HX := Lib.hid hx
  have hxn : xs.length = n := by rw [← hn, ← hx, List.length_map]
  have HXN := Lib.hid hxn
  clear hn hx hxn
  go_enter Try.func28, Try.ntmps28
  go_wp2_with (go_at_call 40; (with_reducible refine (wclone_k A n c xs _ HXN.out (hW.below hO.below) (by omega)).mono ?_); rintro e w1 ⟨A1, c1, rfl, ho1, hb1⟩; replace hO := hO.grow hb1; have hcl1 := hO.b0.cell; have hfl1 := hO.b0.frozen)
  have hOw : OwnWs w1 (w.heap.size + 2) A1 c1 xs := by
    have hz : ((w.alloc (.cells #[.int .i64 x1, .int .i64 x2, .int .i64 x3, .int .i64 x4, .slice A n c] 25)).alloc (.cells #[.int .i64 0, .int .i64 0, .int .i64 0, .int .i64 0, .slice none 0 0] 25)).heap.size = w.heap.size + 2 := by simp
    rw [hz] at ho1
    have hWw := hW.below hO.below
    refine ⟨ho1, fun p hp => (hW.body p hp).away' (hsz _ (by rw [← HX.out]; exact List.mem_map_of_mem hp)).1 hO.below fun g hg => ?_⟩
    have := (ho1.row_ge g hg).1
    omega
  have hOa : Own w (w1.setCell ⟨w.heap.size, 4, none⟩ (.slice A1 n c1)) [(w.heap.size, 25, #[.int .i64 x1, .int .i64 x2, .int .i64 x3, .int .i64 x4, .slice A1 n c1]), (w.heap.size + 1, 25, #[.int .i64 0, .int .i64 0, .int .i64 0, .int .i64 0, .slice none 0 0])] := Own.cell0 hO 4 _
  have hOwa := hOw.far (w' := w1.setCell ⟨w.heap.size, 4, none⟩ (.slice A1 n c1)) hO.b0 (by simp [is8]) (by omega) (by simp [World.setCell]) (fun k hk => Below.heap_setCell w1 ⟨w.heap.size, 4, none⟩ _ k hk)
  clear hO hOw ho1 hcl hcl1 hfl1 hW
  go_loopw [11, 3] (fun i _ wr => ∃ (k : Nat) (xs' : List (Wt × Value)), k ≤ n ∧ i = .int .i64 k ∧ xs'.map (·.1) = ws ∧ Own w wr [(w.heap.size, 25, #[.int .i64 x1, .int .i64 x2, .int .i64 x3, .int .i64 x4, .slice A1 n c1]), (w.heap.size + 1, 25, #[.int .i64 0, .int .i64 0, .int .i64 0, .int .i64 0, .slice none 0 0])] ∧ OwnWs wr (w.heap.size + 2) A1 c1 xs') (fun i _ _ => n - (intOf i).toNat)
  case atStart => exact ⟨0, xs, Nat.zero_le _, rfl, HX.out, hOa, hOwa⟩
  case round =>
    obtain ⟨k, ys, hk, rfl, hys, hO, hOw⟩ := hrel
    have hcl := hO.b0.cell
    have HY := Lib.hid hys
    clear hys
    by_cases hlt : k < n
    · obtain ⟨x, Ab, cb, b, off, hwk, hxk, hA1, hbl, hc0, hc1, hc2, hc3, hB⟩ := hOw.waits.get (k := k) HY.out (by have h1 := HN.out; omega)
      have hlb := hsz x (List.mem_of_getElem? hwk)
      have hyn : ys.length = n := by rw [← HN.out, ← HY.out, List.length_map]
      obtain ⟨g, cur, hA2, hg2, hgB, hgs, _⟩ := hOw.own.blk (by omega)
      obtain ⟨rfl, rfl⟩ : b = g ∧ off = 0 := by
        rw [hA1] at hA2
        injection hA2 with e
        injection e with e1 e2
        exact ⟨e1, e2⟩
      subst hA1
      have hcap : n ≤ c1 := by have := hOw.own.cap.1; omega
      have hlt0 : w.heap.size < wr.heap.size := hO.b0.lt
      simp only [Nat.zero_add] at hc0 hc1 hc2 hc3
      have HW := Lib.hid hwk
      have HK := Lib.hid hxk
      have HS := Lib.hid hgs
      have HYN := Lib.hid hyn
      clear hwk hxk hc0 hc1 hc2 hgs hyn
      go_wp2_with fail
      apply wp_region_lexl
      case hFl =>
        intro u
        simp only [List.map, fill, Act.put, List.setIfInBounds_toArray, List.set_cons_zero, List.set_cons_succ, Nat.reduceAdd, Nat.zero_add]
        rfl
      case hm => kernel_rfl
      case hB => kernel_rfl
      case hA => kernel_rfl
      case hap => kernel_rfl
      iterate 9 (
        apply LexL.is
        · (intro u w' hk hd
           simp [Waited, Region.binds, Is] at hd
           refine looked_want (by first | rfl | simp [Region.wanted, yielded, hd]) ?_
           intro K hK
           obtain ⟨hcR, _⟩ := bcell hk
           go_wp2_with (fail)
           try simp only [hd] at hK
           refine hK _ _ ?_ rfl
           first | exact Below.refl _ _ | exact hb3)
        )
      refine LexL.word (NewBytes (wr.heap.size) x.body) (fun _ _ _ h hb => h.grow hb) ?_ ?_
      · (intro u w' hk hd
         simp [Waited, Region.binds, Is] at hd
         refine looked_want (by first | rfl | simp [Region.wanted, yielded, hd]) ?_
         intro K hK
         obtain ⟨hcR, _⟩ := bcell hk
         skip
         go_wp2_with ((go_at_call 32; (with_reducible refine (bclone_k Ab x.body.length cb x.body _ rfl (hB.below hk) (by omega)).mono ?_); rintro e w3 ⟨v3, rfl, hv3, hb3⟩))
         (try simp only [hd] at hK)
         exact hK _ _ hb3 (hv3.mono hk.size))
      iterate 2 (
        apply LexL.is
        · (intro u w' hk hd
           simp [Waited, Region.binds, Is] at hd
           refine looked_want (by first | rfl | simp [Region.wanted, yielded, hd]) ?_
           intro K hK
           obtain ⟨hcR, _⟩ := bcell hk
           go_wp2_with (fail)
           try simp only [hd] at hK
           refine hK _ _ ?_ rfl
           first | exact Below.refl _ _ | exact hb3)
        )
      refine LexL.last ?_
      intro u w2 hk2 hd
      simp only [List.nil_append, List.cons_append] at hd
      have hu11 := hd 11 _ rfl
      have hv := hd 9 _ rfl
      simp only [Is] at hu11
      clear hd
      refine ⟨rfl, ?_⟩
      intro K hK
      have hgB2 := hgB.below hk2 hgB.lt
      have hvO := hv.away (R := some b) hlb.1 (fun g e => by injection e with e; subst e; exact hgB.lt)
      have hOw2 := (hOw.grow hk2).body_ HK.out hvO
      have hO2 := hO.grow hk2
      have hbe : Below (w.heap.size + 2) w2 (w2.setCell ⟨b, k * 4 + 3, none⟩ (u 9)) := (Below.refl _ _).setCell (p := ⟨b, k * 4 + 3, none⟩) hg2 _
      have hO3 := hO2.above hbe (by intro x hx; simp at hx; rcases hx with rfl | rfl <;> simp)
      have HY2 : Hid ((ys.set k (x, u 9)).map (·.1) = ws) := Lib.hid (by rw [List.map_set, HY.out]; exact set_same HW.out)
      refine wp_store_cell1 33 (.tmp 25) (.tmp 23) rfl b (k * 4 + 3) (by rw [← hu11]; rfl) (u 9) rfl 35 _ hgB2 (by rw [HS.out]; omega) (by kernel_rfl) hvO.is.one (hK _ _ ?_)
      generalize w2.setCell ⟨b, k * 4 + 3, none⟩ (u 9) = w3 at *
      clear hvO hv hgB2 hO2 hbe hk2
      generalize ys.set k (x, u 9) = zs at *
      go_wp2_with fail
      go_roundw
      case rel => exact ⟨k + 1, zs, by omega, by go_num, HY2.out, hO3, hOw2⟩
      case measure => simp [intOf]; omega
    · obtain rfl : k = n := by omega
      go_wp2_with (first
        | ((with_reducible refine own_load0 hO rfl _ rfl rfl _ Try.underlying25 rfl (by kernel_rfl) ?_))
        | ((with_reducible refine own_row1 #[.int .i64 x1, .int .i64 x2, .int .i64 x3, .int .i64 x4, .slice A1 k c1] hO rfl _ _ rfl rfl rfl (by kernel_rfl) rfl (by simp [Value.oneCell']) ?_); intro wR hOR hszR hkR))
      have hrc := hOR.b1.cell
      refine bodyPost_ret (v := .agg #[.int .i64 x1, .int .i64 x2, .int .i64 x3, .int .i64 x4, .slice A1 k c1]) (by simp [results, Try.results28, go_sem, hrc]) rfl ⟨A1, c1, ys, by rw [HN.out], HY.out, ?_, hOR.below⟩
      exact (hOw.far hO.b1 (by simp [is8]) (by omega) hszR hkR).mono (by omega)
end Go.Proofs.Ytiloammjejggjaa
