/- Regions that draw their order, with calls that make memory and answer plain values: one walk in the order of the text serves every order. The class of worlds: all that was there when the region began is as it was. -/
import Derived.Deep.QuietTactic
import Derived.BigQuiet
import Derived.Test.YtchjcfbhpgigjaaWorld
namespace Go.Proofs.Ytchjcfbhpgigjaa
open Go.RowKit

/-- The worlds in which all that was in w is as it was. -/
structure Kin (w : World) where
  W : World
  below : Below w.heap.size w W
instance (w : World) : Nonempty (Kin w) := ⟨⟨w, Below.refl _ _⟩⟩
section
variable {P : Program} {w : World}
@[go_sem] theorem kin_cell (s : Kin w) (b o : Nat) (h : b < w.heap.size) : s.W.cell? ⟨b, o, none⟩ = w.cell? ⟨b, o, none⟩ := s.below.cell (p := ⟨b, o, none⟩) h
@[go_sem] theorem kin_frozen (s : Kin w) (b o : Nat) (h : b < w.heap.size) : s.W.frozen? ⟨b, o, none⟩ = w.frozen? ⟨b, o, none⟩ := s.below.frozen (p := ⟨b, o, none⟩) h
theorem kin_call {f : FuncId} {args : Array Value} {s : Kin w} {v : Value} (h : Calls P f args s.W fun e w' => e = .returned v ∧ Below s.W.heap.size s.W w') :
    Calls P f args s.W fun e w'' => e = .returned v ∧ ∃ s' : Kin w, w'' = s'.W :=
  h.mono fun _ w' ⟨he, hb⟩ => ⟨he, ⟨w', below_then s.below hb⟩, rfl⟩
theorem kin_out {W : World} (h : ∃ s : Kin w, W = s.W) : Below w.heap.size w W := by
  obtain ⟨s, rfl⟩ := h
  exact s.below
theorem kin_drew {f : FuncId} {args : Array Value} {s : Kin w} {v : Value} (h : Calls P f args s.W fun e w' => e = .returned v ∧ ∃ n, w' = s.W.drewN n) :
    Calls P f args s.W fun e w'' => e = .returned v ∧ ∃ s' : Kin w, w'' = s'.W :=
  h.mono fun _ _ ⟨he, n, hw⟩ => ⟨he, ⟨s.W.drewN n, below_drewN s.below n⟩, hw⟩
theorem kin_same {f : FuncId} {args : Array Value} {s : Kin w} {v : Value} (h : Calls P f args s.W fun e w' => e = .returned v ∧ s.W = w') :
    Calls P f args s.W fun e w'' => e = .returned v ∧ ∃ s' : Kin w, w'' = s'.W :=
  h.mono fun _ _ ⟨he, hw⟩ => ⟨he, s, hw.symm⟩
/-- A whole row that was there when the region began, loaded in it. -/
theorem quiet_load_row {K : Act → Prop} {a : Act} {o : Oper} (ty : TypeId) (x : Operand) (ho : o.op = .load ty x) (g : Nat) (hx : a.eval x = .pointer (some ⟨g, 0, none⟩))
    (t : TypeId) (cs : Array Value) (d : TypeDesc) (hg : Blk w g t cs) (hu : P.underlying ty = some d) (hd : (match d with | .struct _ | .array _ _ => true | _ => false) = true)
    (hi : (P.info? ty).map (·.size) = some cs.size) (hk : K (a.put o.dst (.agg cs))) : o.quiet P a (fun w' => ∃ s : Kin w, w' = s.W) K := by
  refine ⟨.agg cs, ?_, hk⟩
  rintro _ ⟨s, rfl⟩
  have hb : Blk s.W g t cs := hg.below s.below hg.lt
  unfold Oper.quietAt execOp
  simp only [ho, hx, Instr.loadAt, Instr.sureAddr, Sem.run_bind, Sem.run_pure, Result.andThen_ok, run_loadVar_row s.W g t ty cs (0, 0) d hb hu hd hi]
  exact ⟨rfl, rfl⟩
theorem wp_region_kin {id : Nat} {Q : Exit → Act → World → Prop} {a : Act} {l : List Oper} (hm : P.follows .mixedOrders = true) (hB : Region.lexB .any l.toArray = true)
    (h : wpQuiet P l.toArray (fun w' => ∃ s : Kin w, w' = s.W) (fun a' => ∀ w', (∃ s : Kin w, w' = s.W) → Q .normal a' w') l a) : (Code.region id l.toArray true).wp P Q a w :=
  wp_region_quiet (C := fun w' => ∃ s : Kin w, w' = s.W) hm hB ⟨⟨w.drewN 1, below_drewN (Below.refl _ _) 1⟩, rfl⟩ (by simpa using h)
end
end Go.Proofs.Ytchjcfbhpgigjaa
