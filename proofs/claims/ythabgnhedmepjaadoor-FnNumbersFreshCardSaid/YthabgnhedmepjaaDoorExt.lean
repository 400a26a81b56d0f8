/- Regions that draw their order, whose operations read and whose callees leave alone what was there: one walk of the text's order. No function of the program occurs here. -/
import Derived.Test.YthabgnhedmepjaaDoorMemB
import Derived.Deep.QuietTactic
import Derived.BigQuiet
namespace Go.Proofs.YthabgnhedmepjaaDoor
open Go.RowKit

open Classical in
/-- A world that w may have become, under calls that leave alone what was there: x, if it is one; else w. -/
noncomputable def ext (w x : World) : World := if Mod [] w x then x else w
theorem ext_mod (w x : World) : Mod [] w (ext w x) := by
  unfold ext
  split
  · assumption
  · exact Mod.refl _ _
theorem ext_eq {w x : World} (h : Mod [] w x) : ext w x = x := by unfold ext; rw [if_pos h]
theorem ext_cell (w x : World) (a : Addr) (h : (w.cell? a).isSome = true) : (ext w x).cell? a = w.cell? a := by
  obtain ⟨v, hv⟩ := Option.isSome_iff_exists.1 h
  exact (ext_mod w x).cell (World.block_lt_of_cell? w a hv) (by simp)
theorem Rep.extd {α : Type} (e : Rep α) {w : World} {F : List Nat} {cs : List Value} {x : α} (h : e.has w F cs x) (y : World) : e.has (ext w y) F cs x := e.mod0 h (ext_mod w y)
theorem quiet_ext {P : Program} {f : FuncId} {args : Array Value} {w x : World} {v : Value} (h : Calls P f args (ext w x) fun e w' => e = .returned v ∧ Mod [] (ext w x) w') :
    Calls P f args (ext w x) fun e w' => e = .returned v ∧ ∃ y, w' = ext w y :=
  h.mono fun _ w' ⟨he, hm⟩ => ⟨he, w', (ext_eq ((ext_mod w x).seq hm)).symm⟩
theorem quiet_ext_same {P : Program} {f : FuncId} {args : Array Value} {w x : World} {v : Value} (h : Calls P f args (ext w x) fun e w' => e = .returned v ∧ ext w x = w') :
    Calls P f args (ext w x) fun e w' => e = .returned v ∧ ∃ y, w' = ext w y :=
  h.mono fun _ _ ⟨he, hm⟩ => ⟨he, x, hm.symm⟩
theorem wp_region_ext {P : Program} {id : Nat} {Q : Exit → Act → World → Prop} {a : Act} {w : World} {l : List Oper} (hm : P.follows .mixedOrders = true) (hB : Region.lexB .any l.toArray = true)
    (h : wpQuiet P l.toArray (fun w' => ∃ x, w' = ext w x) (fun a' => ∀ w', (∃ x, w' = ext w x) → Q .normal a' w') l a) : (Code.region id l.toArray true).wp P Q a w :=
  wp_region_quiet (C := fun w' => ∃ x, w' = ext w x) hm hB ⟨{ w with drawn := w.drawn + 1 }, (ext_eq (Mod.refl _ _).drew).symm⟩ (by simpa using h)
/-- What the walk wants of a world behind a call. -/
theorem Mod.rules {W w : World} (h : Mod [] W w) : (∀ b o, b < W.heap.size → w.cell? ⟨b, o, none⟩ = W.cell? ⟨b, o, none⟩) ∧ (∀ b o, b < W.heap.size → w.frozen? ⟨b, o, none⟩ = W.frozen? ⟨b, o, none⟩) :=
  ⟨fun b o hb => h.cell (p := ⟨b, o, none⟩) hb (by simp), fun b o hb => World.frozen?_of_block (h.block b hb (by simp))⟩

/-! ### Data of several fields, opened -/
theorem Rep.open2 {α β : Type} {a : Rep α} {b : Rep β} {w : World} {F : List Nat} {cs : List Value} {x : α × β} (h : (Rep.pair a b).has w F cs x) :
    ∃ F1 F2 c1 c2, F = F1 ++ F2 ∧ cs = c1 ++ c2 ∧ a.has w F1 c1 x.1 ∧ b.has w F2 c2 x.2 := h
theorem Rep.mk2 {α β : Type} {a : Rep α} {b : Rep β} {w : World} {F1 F2 : List Nat} {c1 c2 : List Value} {x : α} {y : β} (h1 : a.has w F1 c1 x) (h2 : b.has w F2 c2 y) :
    (Rep.pair a b).has w (F1 ++ F2) (c1 ++ c2) (x, y) := ⟨F1, F2, c1, c2, rfl, rfl, h1, h2⟩
theorem Rep.one_cell {α : Type} {a : Rep α} (hs : a.size = 1) {w : World} {F : List Nat} {cs : List Value} {x : α} (h : a.has w F cs x) : ∃ u, cs = [u] := by
  have hl := a.len h
  rw [hs] at hl
  match cs, hl with
  | [u], _ => exact ⟨u, rfl⟩
/-- The cells of element k of a slice, by the addresses that the walk writes. -/
theorem CellsAt.zero {w : World} {ad : Addr} {u : Value} {cs : List Value} (h : CellsAt w ad (u :: cs)) : w.cell? ad = some u := by
  have := h 0 u rfl
  rwa [show ad.add 0 = ad by simp [Addr.add]] at this
theorem CellsAt.nth {w : World} {ad : Addr} {cs : List Value} (h : CellsAt w ad cs) (j : Nat) {u : Value} (hu : cs[j + 1]? = some u) : w.cell? ⟨ad.block, ad.off + (j + 1), none⟩ = some u := by
  have := h (j + 1) u hu
  simpa [Addr.add] using this
end Go.Proofs.YthabgnhedmepjaaDoor
