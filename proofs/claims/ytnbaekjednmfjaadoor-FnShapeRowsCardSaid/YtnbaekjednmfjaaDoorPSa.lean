/- Padded tables: results, and how many columns they have. -/
import Derived.Test.YtnbaekjednmfjaaDoorPdv
import Derived.Test.YtnbaekjednmfjaaDoorSatT
import Derived.Test.YtnbaekjednmfjaaDoorFind
import Derived.Test.YtnbaekjednmfjaaDoorMkDefsT
section
namespace Go.Proofs.YtnbaekjednmfjaaDoor
open Go.RowKit

def zeroP : PaddedD := ([], [], [])
theorem Sat.resultCellTmp {P : Program} {w0 w : World} {Γ : List Fact} {fn : Func} {tmps : Array Value} {u t : Tmp} {T : TypeId} {z : Value} {n b i : Nat} {cs : List Value} (hS : Sat w0 w Γ) (h : fn.results = #[.cell t T, .tmp u]) (ht : tmps.getD t undef = .pointer (some ⟨b, 0, none⟩))
    [hi : BoxAt Γ b cs i] [hT : Ty P T z n true] (hl : cs.length = n) : (results fn tmps).run P w = .ok (.tuple #[.agg cs.toArray, tmps.getD u undef]) w := by
  have hc := hS.boxCells hi.get
  have hv : (loadVar T ⟨b, 0, none⟩).run P w = .ok (.agg cs.toArray) w := by
    subst hl
    simp [loadVar, run_isAgg hT, run_sizeOf hT, run_loadCells_list w _ cs hc]
  have ht' : tmps[t]?.getD undef = .pointer (some ⟨b, 0, none⟩) := by simpa using ht
  simp [results, h, ht', asAddr, hv]
theorem ret_pb {F : PaddedD × Bool} {p : PaddedD} {b : Bool} {cs : List Value} {e : Rep PaddedD} {w w' : World} (h : F = (p, b)) (hf : Fresh e w w' cs p) : ∃ cs', Ending.returned (.tuple #[.agg cs.toArray, .bool b]) = .returned (.tuple #[.agg cs'.toArray, .bool F.2]) ∧ Fresh e w w' cs' F.1 := by
  subst h; exact ⟨cs, rfl, hf⟩
theorem Sat.zeroPadded {w0 w : World} {Γ : List Fact} (h : Sat w0 w Γ) : Sat w0 w (.own oPadded [.slice none 0 0, .slice none 0 0, .slice none 0 0] zeroP :: Γ) :=
  Sat.mkPadded (Sat.nilRow Rep.bool (Sat.nilRow Rep.int.rows (Sat.nilRow Rep.str h)))
theorem padded_rows6 {ns : List ByteArray} {rows : List (List Int)} {real : List Bool} (h : paddedOk (ns, rows, real) = true) : ns.length ≤ 6 ∧ ∀ r ∈ rows, r.length = ns.length := by
  unfold paddedOk at h
  simp only [Bool.and_eq_true] at h
  have hn := h.1
  have h3 := h.2.2.2
  rw [padRows_fit] at h3
  simp only [Bool.and_eq_true, List.all_eq_true] at h3
  unfold namesOk at hn
  simp only [Bool.and_eq_true] at hn
  have h5 := (inB_of hn.2.2).2
  refine ⟨by omega, fun r hr => ?_⟩
  have h4 := h3.1 r hr
  unfold fitRow at h4
  simp only [Bool.and_eq_true, decide_eq_true_eq] at h4
  exact h4.1
end Go.Proofs.YtnbaekjednmfjaaDoor
end

section
namespace Go.Proofs.YtnbaekjednmfjaaDoor
open Go.RowKit

theorem szL_mem {α : Type} (s : α → Nat) (xs : List α) (x : α) (h : x ∈ xs) : s x ≤ szL s xs := by
  obtain ⟨k, hk, rfl⟩ := List.mem_iff_getElem.mp h
  exact szL_get s xs k hk
theorem PSmall_sz {p : PaddedD} (h : szPadded p ≤ 1048576) : PSmall p := by
  have h1 := szL_len szStr p.1
  have h2 := szL_len (szL szZ) p.2.1
  have h3 := szL_len szZ p.2.2
  have h0 : szPadded p = szL szStr p.1 + szL (szL szZ) p.2.1 + szL szZ p.2.2 := rfl
  refine ⟨by omega, ⟨by omega, fun r hr => ?_⟩, by omega⟩
  have h3 := szL_mem (szL szZ) p.2.1 r hr
  have h4 := szL_len szZ r
  omega
theorem ctL_bd {α : Type} {c : α → Nat} {b : Nat} {xs : List α} (h : ∀ x ∈ xs, c x ≤ b) : ctL c xs ≤ b * xs.length := by
  unfold ctL
  induction xs with
  | nil => simp
  | cons x xs ih =>
    have h1 := h x (by simp)
    have h2 := ih (fun y hy => h y (by simp [hy]))
    simp only [List.map_cons, List.sum_cons, List.length_cons, Nat.mul_add, Nat.mul_one] at *
    omega
theorem ctL_one {α : Type} (xs : List α) : ctL (ct1 (α := α)) xs = xs.length := by
  unfold ctL ct1
  induction xs with
  | nil => rfl
  | cons x xs ih => simp only [List.map_cons, List.sum_cons, List.length_cons, ih]; omega
theorem ctvP_le {ns : List ByteArray} {rows : List (List Int)} {real : List Bool} {a b c : Nat} (h1 : ns.length ≤ a) (h2 : rows.length ≤ b) (h3 : ∀ r ∈ rows, r.length ≤ c) (h4 : real.length ≤ b) : ctvPadded (ns, rows, real) ≤ a + c * b + b := by
  have h5 : ctL (ctL ct1) rows ≤ c * rows.length := ctL_bd (fun r hr => by rw [ctL_one]; exact h3 r hr)
  have h6 : c * rows.length ≤ c * b := Nat.mul_le_mul (Nat.le_refl _) h2
  unfold ctvPadded
  dsimp only
  rw [ctL_one, ctL_one]
  omega
theorem ctvP_zero : ctvPadded zeroP = 0 := rfl
end Go.Proofs.YtnbaekjednmfjaaDoor
end
