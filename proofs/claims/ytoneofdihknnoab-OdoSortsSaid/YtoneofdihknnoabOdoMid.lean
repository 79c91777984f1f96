/- Middle: the package's and the document's. -/
import Derived.Test.YtoneofdihknnoabOdoClean
set_option linter.unusedSimpArgs false
set_option linter.unusedVariables false
namespace Go.Proofs.Ytoneofdihknnoab
open Go.RowKit Go.Shelf Go.Sort Ieee

def numL (ys : List UInt64) : List UInt64 := ys.filter fun x => !isNan x.toNat
def midL (t : List UInt64) : UInt64 := if t.length = 0 then 0 else t[(t.length - 1) / 2]!
/-- What a Middle answers: the middle of some sorted list of the numbers. -/
def Mid (ys : List UInt64) (w : World) (e : Ending) (w' : World) : Prop := ∃ t : List UInt64, t.Perm (numL ys) ∧ Asc t ∧ e = .returned (.tuple #[encF (midL t), .bool (decide (t.length ≠ 0))]) ∧ Below w.heap.size w w'
theorem index0_k (A : Option Addr) (c : Nat) (w : World) : Calls Try.prog 29 #[.slice A 0 c, .func (.func 22) #[] #[]] w fun e w' => e = .returned (.int .i64 (-1)) ∧ w' = w := by
  go_enter Try.func29, Try.ntmps29
  go_wp2_with fail
  go_loopw [8] (fun i wr => i = .int .i64 0 ∧ wr = w) (fun _ _ => 0)
  case atStart => exact ⟨rfl, rfl⟩
  case round =>
    obtain ⟨rfl, rfl⟩ := hrel
    go_wp2_with fail
    go_ret
    exact ⟨rfl, rfl⟩
theorem del0_k (A : Option Addr) (c : Nat) (w : World) : Calls Try.prog 21 #[.slice A 0 c, .func (.func 22) #[] #[]] w fun e w' => e = .returned (.slice A 0 c) ∧ w' = w := by
  have hi := index0_k A c w
  go_enter Try.func21, Try.ntmps21
  go_wp2_with (go_at_call 29; (with_reducible refine hi.mono ?_); rintro e w1 ⟨rfl, rfl⟩)
  go_ret
  exact ⟨rfl, rfl⟩
theorem asc_num {zs : List UInt64} (h : Asc zs) : Asc (numL zs) := List.Pairwise.sublist List.filter_sublist h
set_option maxHeartbeats 4000000 in
set_option maxRecDepth 100000 in
theorem pmid_k (A : Option Addr) (c n : Nat) (ys : List UInt64) (w : World) (hn : ys.length = n) (hn200 : n ≤ 200) (hY : RowF w A ys) :
    Calls Try.prog 10 #[.slice A n c] w (Mid ys w) := by
  have hso := psort_k A c n ys w hn hn200 hY
  by_cases h0 : n = 0
  · subst h0
    have hy : ys = [] := List.eq_nil_of_length_eq_zero hn
    subst hy
    have hdl := fun A' c' W => del0_k A' c' W
    go_enter Try.func10, Try.ntmps10
    go_wp2_with (first
      | (go_at_call 6; (with_reducible refine hso.mono ?_); rintro e w1 ⟨A2, c2, zs, rfl, hzl, hp, ha, hr, hg, hb1⟩; clear hg)
      | (go_at_call 21; (with_reducible refine (hdl _ _ _).mono ?_); rintro e w2 ⟨rfl, rfl⟩))
    go_ret2
    exact ⟨[], List.Perm.refl _, List.Pairwise.nil, rfl, hb1⟩
  · clear hn hY
    go_enter Try.func10, Try.ntmps10
    go_wp2_with (go_at_call 6; (with_reducible refine hso.mono ?_); rintro e w1 ⟨A2, c2, zs, rfl, hzl, hp, ha, hr, hg, hb1⟩)
    obtain ⟨g, rfl, hgB, hH, hcap, hm⟩ := hg (by omega)
    have hzz : zs.toArray.size = n := by simpa using hzl
    have hdl := del_k g c2 zs.toArray w1 hH (by omega) (by omega)
    rw [hzz] at hdl
    have hnl : numsF zs.toArray = numL zs := by unfold numsF numL; rfl
    rw [hnl] at hdl
    have hpn : (numL zs).Perm (numL ys) := hp.filter _
    have han := asc_num ha
    have hle : (numL zs).length ≤ n := by rw [← hzl]; exact List.length_filter_le _ _
    have hH2 : ∀ q, Holds encF (putRow encF (Sort.ahead w1 q) g 0 (numL zs ++ List.replicate (n - (numL zs).length) 0).toArray) g 0 (numL zs ++ List.replicate (n - (numL zs).length) 0).toArray := fun q => holds_putRow encF (Sort.ahead w1 q) g 0 zs.toArray _ hH (by simp; omega)
    have HPN := Lib.hid hpn
    have HAN := Lib.hid han
    have hbel : ∀ q (R : Array UInt64), Below w.heap.size w (putRow encF (Sort.ahead w1 q) g 0 R) := fun q R => below_putRow (below_aheadN hb1 q) encF g 0 R hgB
    clear hzz hnl hpn han hp ha hr hH hso hzl
    generalize numL zs = l at *
    by_cases hl0 : l.length = 0
    · have hle0 : l = [] := List.eq_nil_of_length_eq_zero hl0
      subst hle0
      simp only [List.length_nil] at hdl
      clear hH2 hl0
      go_wp2_with (go_at_call 21; (with_reducible refine hdl.mono ?_); rintro e w2 ⟨rfl, q, rfl⟩)
      go_ret2
      exact ⟨[], HPN.out, List.Pairwise.nil, rfl, hbel _ _⟩
    · obtain ⟨m, hm'⟩ : ∃ m, m = l.length := ⟨_, rfl⟩
      obtain ⟨x, hx⟩ : ∃ x : UInt64, x = l[(m - 1) / 2]! := ⟨_, rfl⟩
      have hcell : ∀ q, (putRow encF (Sort.ahead w1 q) g 0 (l ++ List.replicate (n - l.length) 0).toArray).cell? ⟨g, (m - 1) / 2, none⟩ = some (encF x) := fun q => by
        have h1 := (hH2 q ((m - 1) / 2) (by simp; omega)).1
        rw [Nat.zero_add] at h1
        rw [h1, hx]
        congr 2
        have hlt : (m - 1) / 2 < l.length := by omega
        simp [List.getElem?_append_left hlt]
      have hmid : midL l = x := by unfold midL; rw [if_neg hl0, hx, hm']
      have HMID := Lib.hid hmid
      have HML := Lib.hid hm'
      rw [← hm'] at hdl hcell hl0 hle
      generalize (l ++ List.replicate (n - m) 0).toArray = R at *
      clear hmid hx hH2 hm'
      have hm0 : 0 < m := by omega
      clear hl0
      go_wp2_with (go_at_call 21; (with_reducible refine hdl.mono ?_); rintro e w2 ⟨rfl, q, rfl⟩; have hce := hcell q)
      go_ret2
      refine ⟨l, HPN.out, HAN.out, ?_, hbel _ _⟩
      rw [HMID.out, ← HML.out, decide_eq_true (by omega : m ≠ 0)]
      rfl
set_option maxHeartbeats 8000000 in
set_option maxRecDepth 100000 in
theorem rmid_k (A : Option Addr) (c n : Nat) (ys : List UInt64) (w : World) (hn : ys.length = n) (hn200 : n ≤ 200) (hY : RowF w A ys) :
    Calls Try.prog 11 #[.slice A n c] w (Mid ys w) := by
  have HN := Lib.hid hn
  clear hn
  have hcl0 := encF_one.cells
  simp only [Value.cells] at hcl0
  have hst := encF_one.store Try.prog
  have hno := fun (x : UInt64) W => rodnone_k x.toNat W
  go_enter Try.func11, Try.ntmps11
  go_wp2_with fail
  go_loopw [5, 4] (fun i v wr => ∃ (k : Nat) (A2 : Option Addr) (c2 m : Nat) (zs : List UInt64), k ≤ n ∧ m ≤ k ∧ i = .int .i64 k ∧ v = .slice A2 m c2 ∧ zs.length = m ∧ zs = numL (ys.take k) ∧ OwnF wr w.heap.size A2 c2 zs ∧ Below w.heap.size w wr) (fun i _ _ => n - (intOf i).toNat)
  case atStart => exact ⟨0, none, 0, 0, [], Nat.zero_le _, Nat.le_refl _, rfl, rfl, rfl, rfl, OwnF.nil _ _, Below.refl _ _⟩
  case round =>
    obtain ⟨k, A2, c2, m, zs, hk, hmk, rfl, rfl, hzl, hzm, hO, hb⟩ := hrel
    have HZL := Lib.hid hzl
    have HZM := Lib.hid hzm
    clear hzl hzm
    by_cases hlt : k < n
    · have HS := Lib.hid (show numL (ys.take (k + 1)) = numL (ys.take k) ++ (if isNan ys[k]!.toNat then [] else [ys[k]!]) by
        have hkl : k < ys.length := by rw [HN.out]; exact hlt
        unfold numL
        rw [List.take_succ_eq_append_getElem hkl, List.filter_append, getElem!_pos ys k hkl]
        congr 1
        cases h : isNan (ys[k]).toNat <;> simp [h])
      obtain ⟨b, off, rfl, hbl, hc⟩ := hY.below hb (by rw [HN.out]; omega)
      have hcx := hc k (by rw [HN.out]; exact hlt)
      obtain ⟨x, hx⟩ : ∃ x, x = ys[k]! := ⟨_, rfl⟩
      rw [← hx] at hcx HS
      have hnx := hno x
      have ER := Lib.hid (show Value.float .f64 x.toNat = encF x from rfl)
      unfold encF at hcx
      clear hc hx hno
      cases hnan : isNan x.toNat with
      | true =>
        rw [hnan, if_pos rfl, List.append_nil] at HS
        rw [hnan] at hnx
        clear hnan
        generalize x.toNat = xn at *
        go_wp2_with (go_at_call 20; (with_reducible refine (hnx _).mono ?_); rintro e w1 ⟨rfl, rfl⟩)
        go_roundw
        case rel => exact ⟨k + 1, A2, c2, m, zs, by omega, by omega, by go_num, rfl, HZL.out, by rw [HS.out]; exact HZM.out, hO, hb⟩
        case measure => simp [intOf]; omega
      | false =>
        rw [hnan, if_neg Bool.false_ne_true] at HS
        rw [hnan] at hnx
        clear hnan
        generalize x.toNat = xn at *
        go_wp2_with (first
          | (go_at_call 20; (with_reducible refine (hnx _).mono ?_); rintro e w1 ⟨rfl, rfl⟩)
          | (at_builtin; refine wpList_app_f rfl _ _ rfl w.heap.size A2 c2 zs m rfl HZL.out (hO.below ((Below.refl _ _).alloc (Nat.le_refl _) _)) (some ⟨wr.heap.size, 0, none⟩) 1 [x] 1 rfl rfl (one_new wr ER.out) (by omega) (Nat.le_trans hb.size (by simp)) ?_; intro A3 c3 W3 hO3 hg3 h3))
        go_roundw
        case rel => exact ⟨k + 1, A3, c3, m + 1, zs ++ [x], by omega, by omega, by go_num, rfl, by rw [List.length_append, HZL.out]; rfl, by rw [HS.out, ← HZM.out], hO3, (hb.trans (((Below.refl _ _).alloc (Nat.le_refl _) _).mono hb.size)).grown hg3 (by have := hb.size; simp; omega) (fun q hq => (hO.row_ge q hq).1)⟩
        case measure => simp [intOf]; omega
    · obtain rfl : k = n := by omega
      have hzn : zs = numL ys := by have := HZM.out; rwa [List.take_of_length_le (by rw [HN.out]; exact Nat.le_refl _)] at this
      have HZN := Lib.hid hzn
      clear hno hzn
      by_cases hm0 : m = 0
      · have hd : ((m : Int) == 0) = true := by simp [hm0]
        subst hm0
        go_wp2_with fail
        go_ret2
        refine ⟨[], ?_, List.Pairwise.nil, rfl, hb⟩
        rw [← HZN.out, List.eq_nil_of_length_eq_zero HZL.out]
      · have hrs := rsort_k A2 c2 m zs wr HZL.out (by omega) hO.rowF
        have hmp : 0 < m := by omega
        have hd : ((m : Int) == 0) = false := by simp; omega
        clear hm0
        go_wp2_with (go_at_call 7; (with_reducible refine hrs.mono ?_); rintro e w1 ⟨A4, c4, ts, rfl, htl, htp, hta, hO4, hb4⟩; obtain ⟨g, rfl, _, _, hcell⟩ := hO4.at_ (k := (m - 1) / 2) (by omega); obtain ⟨xm, hxm⟩ : ∃ x, x = ts[(m - 1) / 2]! := ⟨_, rfl⟩; rw [← hxm] at hcell; have HXM := Lib.hid hxm; clear hxm; have HTL := Lib.hid htl; have HTP := Lib.hid htp; clear htl htp)
        go_ret2
        refine ⟨ts, by rw [← HZN.out]; exact HTP.out, hta, ?_, hb.trans (hb4.mono hb.size)⟩
        unfold midL
        rw [HTL.out, if_neg (by omega), decide_eq_true (by omega : m ≠ 0), ← HXM.out]
        rfl
end Go.Proofs.Ytoneofdihknnoab
