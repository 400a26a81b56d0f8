/- What the laws' own struct types read as. -/
import Derived.Test.YtnbaekjednmfjaaDoorLaw
import Derived.Test.YtnbaekjednmfjaaDoorShapes
import Derived.Test.YtnbaekjednmfjaaDoorRows
import Derived.Test.YtnbaekjednmfjaaDoorFind
import Derived.Test.YtnbaekjednmfjaaDoorCards
import Derived.Test.YtnbaekjednmfjaaDoorTie
import Derived.ProofKit
import Derived.LaidMore
import Derived.OpenShut
import Derived.MakeChecks
import Derived.Stop.Joined
import Derived.SevenTiedAt
section
namespace Go.Proofs.YtnbaekjednmfjaaDoor
open Go.ChangeShapes Go.WideShapes Go.ChangeAt Go.RowKit Go.Deep















end Go.Proofs.YtnbaekjednmfjaaDoor
end

section
namespace Go.Proofs.YtnbaekjednmfjaaDoor
open Go.ChangeShapes Go.WideShapes Go.ChangeAt Go.RowKit Go.Deep

def wordOf (l : List UInt8) : ByteArray := ⟨l.toArray⟩
theorem all_strs (w : World) : ∀ l : List ByteArray, (∀ s ∈ l, s.size ≤ maxLen) → Rep.str.all w [] (l.map Value.string) l
  | [], _ => ⟨rfl, rfl⟩
  | s :: l, h => ⟨[], [], [.string s], _, rfl, rfl, ⟨rfl, rfl, h s (by simp)⟩, all_strs w l (fun m hm => h m (by simp [hm]))⟩
theorem strs_of_trod {H : Type} {enc : TypeId × Value → H} {P : Program} {w : World} {base : Nat} {sp : Nat → Bool} {held : Bool} {fuel : Nat} {t te : TypeId} {cs : List Value} {ls : List (List UInt8)} {sd : List (DataW H)} {ps : List MemPlace}
    (ht : P.underlying t = some (.slice te)) (he : P.underlying te = some .string) (hc1 : P.cellsOf te = 1) (h : DataW.trod enc P w base sp held fuel t cs = some (.slice (ls.map fun l => .lit (.string l)) sd, ps)) :
    ∃ F, SliceHas Rep.str w F cs (ls.map wordOf) := by
  rcases open_slice1 ht hc1 h with ⟨_, hx⟩ | ⟨a, len, cap, m, n, V, D, Pl, rfl, _, hl, hm, hmm, hx, hi⟩
  · simp at hx
  simp only [Prod.mk.injEq, DataW.slice.injEq] at hx
  have hlen : ls.length = len := by have := congrArg List.length hx.1.1; simpa using this
  have hlm : len ≤ m := by rw [hmm]; split <;> omega
  have hV : ∀ i, i < len → w.cell? (a.add i) = some (.string (wordOf (ls.getD i []))) ∧ (wordOf (ls.getD i [])).size ≤ maxLen := by
    intro i hil
    obtain ⟨h1, h2⟩ := hi i (by omega)
    obtain ⟨s, hs, hx2, hsz⟩ := DataW.trod_string he h2
    have h3 := congrArg (fun l : List (DataW H) => l[i]?) hx.1.1
    simp only [List.getElem?_map, List.getElem?_range hil, Option.map_some] at h3
    rw [List.getElem?_eq_getElem (by omega)] at h3
    simp only [Option.map_some, Option.some.injEq] at h3
    simp only [Prod.mk.injEq] at hx2
    rw [hx2.1] at h3
    simp only [DataW.lit.injEq, Lit.string.injEq] at h3
    have hw : wordOf (ls.getD i []) = s := by
      rw [List.getD_eq_getElem?_getD, List.getElem?_eq_getElem (by omega), Option.getD_some, h3]
      rfl
    simp only [List.cons.injEq, and_true] at hs
    rw [hw, h1, hs]
    exact ⟨rfl, hsz⟩
  have hall := all_strs w (ls.map wordOf) (fun s hs => by
    obtain ⟨l, hl, rfl⟩ := List.mem_map.1 hs
    obtain ⟨i, hi, rfl⟩ := List.getElem_of_mem hl
    have := (hV i (by omega)).2
    rwa [List.getD_eq_getElem?_getD, List.getElem?_eq_getElem hi, Option.getD_some] at this)
  rcases Nat.eq_zero_or_pos len with h0 | hpos
  · subst h0
    exact ⟨[], _, 0, cap, _, [], rfl, by simpa using hlen, hl, hm, hall, .inl ⟨rfl, rfl⟩⟩
  · refine ⟨[a.block], _, len, cap, _, [], rfl, by simpa using hlen, hl, hm, hall, .inr ⟨a, rfl, rfl, ?_, ?_⟩⟩
    · have := World.block_lt_of_cell? _ _ (hV 0 hpos).1
      rwa [add_block] at this
    · intro j u hu
      simp only [List.getElem?_map] at hu
      have hj : j < ls.length := by
        rcases Nat.lt_or_ge j ls.length with h | h
        · exact h
        · rw [List.getElem?_eq_none h] at hu; simp at hu
      rw [List.getElem?_eq_getElem hj] at hu
      simp only [Option.map_some, Option.some.injEq] at hu
      rw [(hV j (by omega)).1, ← hu, List.getD_eq_getElem?_getD, List.getElem?_eq_getElem hj, Option.getD_some]

def resBytes : List (List UInt8) := [[115, 101, 108, 101, 99, 116], [102, 114, 111, 109], [106, 111, 105, 110], [111, 110], [119, 104, 101, 114, 101], [97, 110, 100], [111, 114], [103, 114, 111, 117, 112], [98, 121], [115, 117, 109], [111, 114, 100, 101, 114], [100, 111, 119, 110], [108, 105, 109, 105, 116]]
def resWords : List ByteArray := resBytes.map wordOf
/-- The variable impl.reserved holds the reserved words. -/
def ResOk (w : World) : Prop := ∃ A c F, (Rep.cellR ⟨0, 0, none⟩).has w [0] [] [.slice A 13 c] ∧ SliceHas Rep.str w F [.slice A 13 c] resWords
theorem ResOk.mod0 {w w' : World} (h : ResOk w) (hm : Mod [] w w') : ResOk w' := by
  obtain ⟨A, c, F, h1, h2⟩ := h
  exact ⟨A, c, F, (Rep.cellR _).mod0 h1 hm, Rep.str.slice.mod0 h2 hm⟩
theorem gRes : Tryd.prog.globalNamed "loop.example/obliviousqueries/impl.reserved" = some 0 := by kernel_rfl
theorem tRes : (Tryd.prog.globals[0]?).map (·.type) = some 27 := by kernel_rfl
theorem res_of_laid {W : World} (h : laidMetH Tryd.prog [("loop.example/obliviousqueries/impl.reserved", Rows.laid_loop_example_obliviousqueries_impl_reserved)] W) : ResOk W := by
  rw [MakeChecks.laidMetH_plain _ _ _ (by kernel_rfl)] at h
  obtain ⟨ps, ⟨g0, t0, cs0, f0, p0, q0, hg0, ht0, hv0, hd0, _, _⟩, _, _⟩ := h
  obtain rfl := Option.some.inj (gRes.symm.trans hg0)
  obtain rfl := Option.some.inj (tRes.symm.trans ht0)
  obtain ⟨F, hF⟩ := strs_of_trod (ls := resBytes) Tryd.underlying27 Tryd.underlying9 (by kernel_rfl) hd0
  obtain ⟨v, hcs⟩ := Rep.one_cell (a := Rep.str.slice) rfl hF
  rw [hcs] at hF
  obtain ⟨A, n, c, rfl, hn, _⟩ := SliceHas.form hF
  have hn : n = 13 := by rw [← hn]; rfl
  subst hn
  refine ⟨A, c, F, ?_, hF⟩
  have hcell := World.var?_cell hg0 hv0 0
  rw [Array.eq_one_of_toList hcs] at hcell
  have hcell' : W.cell? ⟨0, 0, none⟩ = some (.slice A 13 c) := by simpa using hcell
  exact cellR_of hcell'
theorem vars_one {H : Type} {enc : TypeId × Value → H} {P : Program} {w : World} {sp : Nat → Bool} {n : String} {gs : List (DataW H)} {ps : List MemPlace} (h : DataW.TrodVars enc P w sp [n] gs ps) : ∃ g, gs = [g] := by
  match gs, h with
  | [g], _ => exact ⟨g, rfl⟩
end Go.Proofs.YtnbaekjednmfjaaDoor
end

section
namespace Go.Proofs.YtnbaekjednmfjaaDoor
open Go.RowKit

theorem toList_lit {s : String} {l : List Char} (h : s = String.ofList l) : s.toList = l := by rw [h]; exact String.toList_ofList
def genW : List (List Char) := ["harness".toList, "560254b42e508d59d0360d4e6bf3225e2fd6a06977a88f5065f445816a91793f".toList, "cut".toList, "at".toList, "loop.example/obliviousqueries/laws.FnShapesOf".toList, "loop.example/obliviousqueries/laws.FnShapeRows".toList]
theorem gen_list : ∃ l, Tryd.prog.initOrder = String.ofList l ∧ wordsSigns l = genW :=
  ⟨_, (by kernel_rfl : Tryd.prog.initOrder = "harness 560254b42e508d59d0360d4e6bf3225e2fd6a06977a88f5065f445816a91793f cut at loop.example/obliviousqueries/laws.FnShapesOf loop.example/obliviousqueries/laws.FnShapeRows"), by kernel_rfl⟩
theorem gen_words : wordsSigns Tryd.prog.initOrder.toList = genW := by
  obtain ⟨l, h, hw⟩ := gen_list
  rw [toList_lit h]; exact hw
theorem make_of (P : Program) (h : wordsSigns P.initOrder.toList = genW) : P.make = some .cut := by unfold Program.make; (try unfold Program.headLifts); rw [h]; kernel_rfl
theorem lifts_of (P : Program) (h : wordsSigns P.initOrder.toList = genW) : P.liftsFinal = false := by unfold Program.liftsFinal; (try unfold Program.headLifts); rw [h]; kernel_rfl
theorem strip_gen : stripLifts liftWords (behindMainWord genW) = ([], behindMainWord genW) := by kernel_rfl
theorem may_of (P : Program) (h : wordsSigns P.initOrder.toList = genW) (h1 : P.laysLater = false) (h2 : P.bearsReflect = false) (h3 : P.doorFits [] = true) : P.mayEnter = true := by
  have e : behindMainWord genW = "cut".toList :: (behindMainWord genW).tail := by kernel_rfl
  have k1 : (behindMainWord genW).head? = some "cut".toList := by rw [e]; rfl
  unfold Program.mayEnter
  rw [h, e]
  dsimp only
  rw [← e, strip_gen, h1, h2]
  dsimp only
  rw [h3]
  rw [k1]
  simp
theorem main_of (P : Program) (h : wordsSigns P.initOrder.toList = genW) : P.mainIs = some (true, "560254b42e508d59d0360d4e6bf3225e2fd6a06977a88f5065f445816a91793f".toList) := by unfold Program.mainIs; rw [h]; kernel_rfl
theorem gen_make : Tryd.prog.make = some .cut := make_of _ gen_words
theorem gen_lifts : Tryd.prog.liftsFinal = false := lifts_of _ gen_words
theorem gen_may : Tryd.prog.mayEnter = true := may_of _ gen_words (by kernel_rfl) (by kernel_rfl) (by kernel_rfl)
theorem gen_main : Tryd.prog.mainIs = some (true, "560254b42e508d59d0360d4e6bf3225e2fd6a06977a88f5065f445816a91793f".toList) := main_of _ gen_words
end Go.Proofs.YtnbaekjednmfjaaDoor
end
