/- Regions that draw their order, where two or three operations of the kinds 2 and 3 may come in any order: a tree of orders. No function of the program occurs here. -/
import Derived.Test.YtldknaajnnohiaaDoorDrawB
import Derived.Test.YtldknaajnnohiaaDoorNew
import Derived.Test.YtldknaajnnohiaaDoorPdv
section
namespace Go.Proofs.YtldknaajnnohiaaDoor
open Go.RowKit

section
variable {P : Program} {ops : Array Oper} {Q : Exit → Act → World → Prop} {md : Region.Mode} {calm : Nat → Bool}
/-- Orders: a list, or a list behind which two or three operations (of the kinds 2 or 3) may come in any order. -/
inductive OrdM where
  | lin (L : List (Nat × Nat))
  | br (L : List (Nat × Nat)) (i k : Nat) (A : OrdM) (j l : Nat) (B : OrdM)
  | tri (L : List (Nat × Nat)) (i k : Nat) (A : OrdM) (j l : Nat) (B : OrdM) (m n : Nat) (C : OrdM)
def OrdM.len : OrdM → Nat
  | .lin L => L.length
  | .br L _ _ A _ _ B => L.length + 1 + max A.len B.len
  | .tri L _ _ A _ _ B _ _ C => L.length + 1 + max A.len (max B.len C.len)
def OrdM.loud : OrdM → Nat → Bool
  | .lin L, x => L.contains (x, 3)
  | .br L i k A j l B, x => L.contains (x, 3) || ((i == x && k == 3) || ((j == x && l == 3) || (A.loud x || B.loud x)))
  | .tri L i k A j l B m n C, x => L.contains (x, 3) || ((i == x && k == 3) || ((j == x && l == 3) || ((m == x && n == 3) || (A.loud x || (B.loud x || C.loud x)))))
def wpM (P : Program) (ops : Array Oper) (Q : Exit → Act → World → Prop) : OrdM → Act → World → Prop
  | .lin L, a, w => wpD P ops Q L a w
  | .br L i k A j l B, a, w => wpD P ops (onN Q fun a w => wpD P ops (onN Q (wpM P ops Q A)) [(i, k)] a w ∧ wpD P ops (onN Q (wpM P ops Q B)) [(j, l)] a w) L a w
  | .tri L i k A j l B m n C, a, w => wpD P ops (onN Q fun a w => wpD P ops (onN Q (wpM P ops Q A)) [(i, k)] a w ∧ wpD P ops (onN Q (wpM P ops Q B)) [(j, l)] a w ∧ wpD P ops (onN Q (wpM P ops Q C)) [(m, n)] a w) L a w
def chkM (md : Region.Mode) (ops : Array Oper) (calm : Nat → Bool) : OrdM → Array Bool → Bool
  | .lin L, listed => chkD md ops calm L listed
  | .br L i k A j l B, listed => chkP md ops calm L listed && ((Region.ready md ops (aft L listed) == [i, j]) && ((okK calm i k && okK calm j l) && (chkM md ops calm A ((aft L listed).setIfInBounds i true) && chkM md ops calm B ((aft L listed).setIfInBounds j true))))
  | .tri L i k A j l B m n C, listed => chkP md ops calm L listed && ((Region.ready md ops (aft L listed) == [i, j, m]) && ((okK calm i k && (okK calm j l && okK calm m n)) && (chkM md ops calm A ((aft L listed).setIfInBounds i true) && (chkM md ops calm B ((aft L listed).setIfInBounds j true) && chkM md ops calm C ((aft L listed).setIfInBounds m true)))))
theorem wpAnyM_of_T (hsel : Region.noSelect ops = true) (hQ : ∀ c a d v w, Q (.panic c) (Act.put a d v) w → Q (.panic c) a w) : ∀ (t : OrdM) (listed : Array Bool) (a : Act) (w : World) (fuel : Nat),
    chkM md ops calm t listed = true → ClosedL md ops listed → wpM P ops Q t a w → t.len ≤ fuel → wpAnyM P md ops Q calm fuel listed a w
  | .lin L, listed, a, w, fuel, hk, hcl, h, hf => wpAnyM_of_D hsel hQ L listed a w fuel hk hcl h hf
  | .br L i k A j l B, listed, a, w, fuel, hk, hcl, h, hf => by
    simp only [chkM, Bool.and_eq_true, beq_iff_eq] at hk
    obtain ⟨hk1, hk2, ⟨hki, hkj⟩, hk3, hk4⟩ := hk
    obtain ⟨f, rfl⟩ : ∃ f, fuel = (f + 1) + L.length := ⟨fuel - 1 - L.length, by simp only [OrdM.len] at hf; omega⟩
    have hA : A.len ≤ f := by simp only [OrdM.len] at hf; omega
    have hB : B.len ≤ f := by simp only [OrdM.len] at hf; omega
    refine wpAnyM_of_P hsel hQ L listed a w (f + 1) hk1 hcl h (fun a w hc hK => ?_)
    have hi : i ∈ Region.ready md ops (aft L listed) := by rw [hk2]; simp
    have hj : j ∈ Region.ready md ops (aft L listed) := by rw [hk2]; simp
    refine ⟨fun h0 => (by rw [h0] at hi; cases hi), fun x hx => ?_⟩
    rw [hk2] at hx
    simp only [List.mem_cons, List.not_mem_nil, or_false] at hx
    rcases hx with rfl | rfl
    · exact stepK hki hK.1 (fun a' w' h' => wpAnyM_of_T hsel hQ A _ a' w' f hk3 (hc.set hi) h' hA)
    · exact stepK hkj hK.2 (fun a' w' h' => wpAnyM_of_T hsel hQ B _ a' w' f hk4 (hc.set hj) h' hB)
  | .tri L i k A j l B m n C, listed, a, w, fuel, hk, hcl, h, hf => by
    simp only [chkM, Bool.and_eq_true, beq_iff_eq] at hk
    obtain ⟨hk1, hk2, ⟨hki, hkj, hkm⟩, hk3, hk4, hk5⟩ := hk
    obtain ⟨f, rfl⟩ : ∃ f, fuel = (f + 1) + L.length := ⟨fuel - 1 - L.length, by simp only [OrdM.len] at hf; omega⟩
    have hA : A.len ≤ f := by simp only [OrdM.len] at hf; omega
    have hB : B.len ≤ f := by simp only [OrdM.len] at hf; omega
    have hC : C.len ≤ f := by simp only [OrdM.len] at hf; omega
    refine wpAnyM_of_P hsel hQ L listed a w (f + 1) hk1 hcl h (fun a w hc hK => ?_)
    have hi : i ∈ Region.ready md ops (aft L listed) := by rw [hk2]; simp
    have hj : j ∈ Region.ready md ops (aft L listed) := by rw [hk2]; simp
    have hm : m ∈ Region.ready md ops (aft L listed) := by rw [hk2]; simp
    refine ⟨fun h0 => (by rw [h0] at hi; cases hi), fun x hx => ?_⟩
    rw [hk2] at hx
    simp only [List.mem_cons, List.not_mem_nil, or_false] at hx
    rcases hx with rfl | rfl | rfl
    · exact stepK hki hK.1 (fun a' w' h' => wpAnyM_of_T hsel hQ A _ a' w' f hk3 (hc.set hi) h' hA)
    · exact stepK hkj hK.2.1 (fun a' w' h' => wpAnyM_of_T hsel hQ B _ a' w' f hk4 (hc.set hj) h' hB)
    · exact stepK hkm hK.2.2 (fun a' w' h' => wpAnyM_of_T hsel hQ C _ a' w' f hk5 (hc.set hm) h' hC)
def chkTreeM (ops : Array Oper) (t : OrdM) : Bool := Region.noSelect ops && (t.len ≤ 4 * ops.size : Bool) && chkM .any ops (fun j => !t.loud j) t (Array.replicate ops.size false)
/-- A region that draws its order: a tree of orders serves. -/
theorem wp_region_treeM {id : Nat} {a : Act} {w : World} {l : List Oper} (t : OrdM) (hm : P.follows .mixedOrders = true) (hc : chkTreeM l.toArray t = true) (hQ : ∀ c a d v w, Q (.panic c) (Act.put a d v) w → Q (.panic c) a w)
    (h : wpM P l.toArray Q t a w.drew) : (Code.region id l.toArray true).wp P Q a w := by
  simp only [chkTreeM, Bool.and_eq_true, decide_eq_true_eq] at hc
  have h1 := wpAny_of_M (calm := fun j => !t.loud j) _ _ _ _ (wpAnyM_of_T hc.1.1 hQ t _ a _ (l.toArray.size + 3 * l.toArray.size) hc.2 (fun j o _ hj => by
    have : (Array.replicate l.toArray.size false).getD j false = false := by
      rw [Array.getD_eq_getD_getElem?, Array.getElem?_replicate]
      split <;> rfl
    rw [this] at hj; cases hj) h (by omega))
  refine wp_region_any hm (wpAny_len (3 * l.toArray.size) _ _ _ _ (by simp) ?_ h1)
  refine Nat.le_trans (List.length_filter_le _ _) (by simp)

variable {a : Act} {w : World} {i k j l m n : Nat} {L : List (Nat × Nat)} {A B C : OrdM}
theorem M_br (h : wpD P ops (onN Q fun a w => wpD P ops (onN Q (wpM P ops Q A)) [(i, k)] a w ∧ wpD P ops (onN Q (wpM P ops Q B)) [(j, l)] a w) L a w) : wpM P ops Q (.br L i k A j l B) a w := h
theorem M_tri (h : wpD P ops (onN Q fun a w => wpD P ops (onN Q (wpM P ops Q A)) [(i, k)] a w ∧ wpD P ops (onN Q (wpM P ops Q B)) [(j, l)] a w ∧ wpD P ops (onN Q (wpM P ops Q C)) [(m, n)] a w) L a w) : wpM P ops Q (.tri L i k A j l B m n C) a w := h
theorem M_lin (h : wpD P ops Q L a w) : wpM P ops Q (.lin L) a w := h
theorem M_and (h1 : wpD P ops (onN Q (wpM P ops Q A)) [(i, k)] a w) (h2 : wpD P ops (onN Q (wpM P ops Q B)) [(j, l)] a w) : wpD P ops (onN Q fun a w => wpD P ops (onN Q (wpM P ops Q A)) [(i, k)] a w ∧ wpD P ops (onN Q (wpM P ops Q B)) [(j, l)] a w) [] a w := ⟨h1, h2⟩
theorem M_and3 (h1 : wpD P ops (onN Q (wpM P ops Q A)) [(i, k)] a w) (h2 : wpD P ops (onN Q (wpM P ops Q B)) [(j, l)] a w) (h3 : wpD P ops (onN Q (wpM P ops Q C)) [(m, n)] a w) : wpD P ops (onN Q fun a w => wpD P ops (onN Q (wpM P ops Q A)) [(i, k)] a w ∧ wpD P ops (onN Q (wpM P ops Q B)) [(j, l)] a w ∧ wpD P ops (onN Q (wpM P ops Q C)) [(m, n)] a w) [] a w := ⟨h1, h2, h3⟩
theorem M_ord (h : wpM P ops Q A a w) : wpD P ops (onN Q (wpM P ops Q A)) [] a w := h
end
end Go.Proofs.YtldknaajnnohiaaDoor
end

section
namespace Go.Proofs.YtldknaajnnohiaaDoor
open Go.RowKit

set_option maxHeartbeats 1000000 in
theorem spec_l1Copy (w : World) (F : List Nat) (v : Value) (r : List Int) (hx : SliceHas Rep.int w F [v] r) (hb : r.length ≤ 1048576) :
    Calls Tryd.prog 161 #[v] w fun e w' => ∃ v', e = .returned v' ∧ Fresh Rep.int.rows w w' [v'] r := by
  obtain ⟨A, c, rfl, hn, _⟩ := hx.form'
  have hS : Sat w w [.ro Rep.int.slice [.slice A r.length c] r] := (Sat.nil w).arg hx
  clear hx
  go_enter Tryd.func161, Tryd.ntmps161
  go_wp2_with (first | ((with_reducible show wpList _ _ _ (⟨_, Op.call { callee := Callee.builtin Builtin.append, args := _, argTypes := _ }, _, _, _, _⟩ :: _) _ _); replace hS := (Sat.vec0 Rep.int hS).lit (Nat.zero_le _); refine Does.list (f_appendFlat Rep.int Rep.int hS rfl rfl rfl rfl rfl rfl (by decide) (by omega)) rfl ?_; clear hS; rintro _ wx ⟨A2, c2, rfl, hS⟩; (simp only [List.set_cons_zero, List.set_cons_succ] at hS); (simp only [Act.put, List.setIfInBounds_toArray, List.set_cons_zero, List.set_cons_succ]); (simp only [Nat.zero_add, List.nil_append] at hS ⊢)) | ((with_reducible show wpList _ _ _ (⟨_, Op.buildSlice _ _ _, _, _, _, _⟩ :: _) _ _); refine Does.list (does_buildSlice (X := ?_) (cs := ?_) (E := ?_) hS rfl ?_ ?_) rfl ?_; rotate_left 3; (go_simp; rfl); rfl; clear hS; rintro _ wx ⟨bx, rfl, hS, _⟩; (simp only [Act.put, List.setIfInBounds_toArray, List.set_cons_zero, List.set_cons_succ])))
  go_ret
  exact ⟨_, rfl, hS.result⟩
set_option maxHeartbeats 4000000 in
set_option maxRecDepth 8000 in
theorem spec_l8Copy (w : World) (A1 A2 A3 : Option Addr) (c1 c2 c3 : Nat) (F G H' : List Nat) (ns : List ByteArray) (rows : List (List Int)) (real : List Bool) (hx : SliceHas Rep.str w F [.slice A1 ns.length c1] ns) (hy : SliceHas Rep.int.slice w G [.slice A2 rows.length c2] rows) (hz : SliceHas Rep.bool w H' [.slice A3 real.length c3] real) (hb : PSmall (ns, rows, real)) :
    Calls Tryd.prog 97 #[.agg #[.slice A1 ns.length c1, .slice A2 rows.length c2, .slice A3 real.length c3]] w fun e w' => ∃ cs, e = .returned (.agg cs.toArray) ∧ Fresh oPadded w w' cs (ns, rows, real) := by
  obtain ⟨hb1, ⟨hb2, hb3⟩, hb4⟩ := hb
  dsimp only at hb1 hb2 hb3 hb4
  have Hb := Lib.hid hb3
  clear hb3
  have hS : Sat w w [.ro Rep.str.slice [.slice A1 ns.length c1] ns, .ro Rep.int.slice.slice [.slice A2 rows.length c2] rows, .ro Rep.bool.slice [.slice A3 real.length c3] real] := (((Sat.nil w).arg hz).arg hy).arg hx
  clear hx hy hz
  go_enter Tryd.func97, Tryd.ntmps97
  go_wp2_with (first | ((with_reducible show Code.wp _ (Code.region 1 _ true) _ _ _); refine wp_region_treeM (.tri [(1, 0), (2, 1), (5, 0), (6, 1)] 0 2 (.tri [] 3 2 (.br [] 4 2 (.br [] 7 2 (.lin [(8, 0), (9, 2), (10, 3)]) 9 2 (.lin [(7, 2), (8, 0), (10, 3)])) 9 2 (.lin [(4, 2), (7, 2), (8, 0), (10, 3)])) 4 2 (.br [] 3 2 (.br [] 7 2 (.lin [(8, 0), (9, 2), (10, 3)]) 9 2 (.lin [(7, 2), (8, 0), (10, 3)])) 9 2 (.lin [(3, 2), (7, 2), (8, 0), (10, 3)])) 9 2 (.br [] 3 2 (.lin [(4, 2), (7, 2), (8, 0), (10, 3)]) 4 2 (.lin [(3, 2), (7, 2), (8, 0), (10, 3)]))) 4 2 (.br [] 0 2 (.br [] 3 2 (.br [] 7 2 (.lin [(8, 0), (9, 2), (10, 3)]) 9 2 (.lin [(7, 2), (8, 0), (10, 3)])) 9 2 (.lin [(3, 2), (7, 2), (8, 0), (10, 3)])) 9 2 (.lin [(0, 2), (3, 2), (7, 2), (8, 0), (10, 3)])) 9 2 (.br [] 0 2 (.br [] 3 2 (.lin [(4, 2), (7, 2), (8, 0), (10, 3)]) 4 2 (.lin [(3, 2), (7, 2), (8, 0), (10, 3)])) 4 2 (.lin [(0, 2), (3, 2), (7, 2), (8, 0), (10, 3)]))) (by kernel_rfl) (by kernel_rfl) (by intro _ _ dq _ _ hq; cases dq <;> exact hq) ?_; replace hS := hS.mod (Mod.drew (Mod.refl _ _)); (generalize hwd : World.drew _ = wz at hS ⊢); clear hwd) | (with_reducible refine M_br ?_) | (with_reducible refine M_tri ?_) | (with_reducible refine M_lin ?_) | (with_reducible refine M_and ?_ ?_) | (with_reducible refine M_and3 ?_ ?_ ?_) | (with_reducible refine M_ord ?_) | ((with_reducible show wpD _ _ _ ((_, 2) :: _) _ _); (first | (refine D_calm rfl rfl (does_appendNew (e := Rep.str) hS Rep.str rfl rfl rfl rfl rfl rfl (by decide) (by omega)) ?_; clear hS; rintro _ wx ⟨B1, d1, rfl, hS, hM⟩) | (have hT := hS.pull 1 rfl; (simp only [List.eraseIdx_cons_succ, List.eraseIdx_cons_zero] at hT); refine D_calm rfl rfl (does_appendNew (e := Rep.str) hT Rep.str rfl rfl rfl rfl rfl rfl (by decide) (by omega)) ?_; clear hS hT; rintro _ wx ⟨B1, d1, rfl, hS, hM⟩) | (have hT := hS.pull 2 rfl; (simp only [List.eraseIdx_cons_succ, List.eraseIdx_cons_zero] at hT); refine D_calm rfl rfl (does_appendNew (e := Rep.str) hT Rep.str rfl rfl rfl rfl rfl rfl (by decide) (by omega)) ?_; clear hS hT; rintro _ wx ⟨B1, d1, rfl, hS, hM⟩) | (have hT := hS.pull 3 rfl; (simp only [List.eraseIdx_cons_succ, List.eraseIdx_cons_zero] at hT); refine D_calm rfl rfl (does_appendNew (e := Rep.str) hT Rep.str rfl rfl rfl rfl rfl rfl (by decide) (by omega)) ?_; clear hS hT; rintro _ wx ⟨B1, d1, rfl, hS, hM⟩) | (refine D_calm rfl rfl (does_appendNew (e := Rep.bool) hS Rep.bool rfl rfl rfl rfl rfl rfl (by decide) (by omega)) ?_; clear hS; rintro _ wx ⟨B3, d3, rfl, hS, hM⟩) | (have hT := hS.pull 1 rfl; (simp only [List.eraseIdx_cons_succ, List.eraseIdx_cons_zero] at hT); refine D_calm rfl rfl (does_appendNew (e := Rep.bool) hT Rep.bool rfl rfl rfl rfl rfl rfl (by decide) (by omega)) ?_; clear hS hT; rintro _ wx ⟨B3, d3, rfl, hS, hM⟩) | (have hT := hS.pull 2 rfl; (simp only [List.eraseIdx_cons_succ, List.eraseIdx_cons_zero] at hT); refine D_calm rfl rfl (does_appendNew (e := Rep.bool) hT Rep.bool rfl rfl rfl rfl rfl rfl (by decide) (by omega)) ?_; clear hS hT; rintro _ wx ⟨B3, d3, rfl, hS, hM⟩) | (have hT := hS.pull 3 rfl; (simp only [List.eraseIdx_cons_succ, List.eraseIdx_cons_zero] at hT); refine D_calm rfl rfl (does_appendNew (e := Rep.bool) hT Rep.bool rfl rfl rfl rfl rfl rfl (by decide) (by omega)) ?_; clear hS hT; rintro _ wx ⟨B3, d3, rfl, hS, hM⟩)); refine ⟨hM, ?_⟩; clear hM; (first | show wpD _ _ _ _ (Act.put _ (some _) _) _ | show wpD _ _ _ _ (Act.put _ none _) _); (simp only [Act.put, List.setIfInBounds_toArray, List.set_cons_zero, List.set_cons_succ])) | ((with_reducible show wpD _ _ _ ((_, 3) :: _) _ _); refine D_loud rfl rfl (f_storeS hS rfl rfl rfl (by rfl) (by rfl) (by rfl)) ?_; clear hS; rintro _ wx ⟨rfl, hS⟩; (simp only [List.set_cons_zero, List.set_cons_succ] at hS); (first | show wpD _ _ _ _ (Act.put _ (some _) _) _ | show wpD _ _ _ _ (Act.put _ none _) _); (simp only [Act.put, List.setIfInBounds_toArray, List.set_cons_zero, List.set_cons_succ])) | ((with_reducible show wpD _ _ _ [] _ _); refine D_nil ?_) | ((with_reducible show wpD _ _ _ ((_, 0) :: _) _ _); (first | (refine D_skip rfl rfl ?_; (first | show wpD _ _ _ _ (Act.put _ (some _) _) _ | show wpD _ _ _ _ (Act.put _ none _) _); (simp only [Act.put, List.setIfInBounds_toArray, List.set_cons_zero, List.set_cons_succ])) | (refine D_pure (v := ?_) rfl rfl (fun wq => ?_) ?_; rotate_left 1; (show (Sem.run _ (execOp _ (Oper.mk _ _ _ _ _ _)) _) = _; go_simp; (try go_bits); with_reducible rfl); (first | show wpD _ _ _ _ (Act.put _ (some _) _) _ | show wpD _ _ _ _ (Act.put _ none _) _); (simp only [Act.put, List.setIfInBounds_toArray, List.set_cons_zero, List.set_cons_succ])))) | ((with_reducible show wpD _ _ _ ((_, 1) :: _) _ _); (first | (refine D_skip rfl rfl ?_; (first | show wpD _ _ _ _ (Act.put _ (some _) _) _ | show wpD _ _ _ _ (Act.put _ none _) _); (simp only [Act.put, List.setIfInBounds_toArray, List.set_cons_zero, List.set_cons_succ])) | ((first | refine D_load rfl rfl (fun x hx => f_load (hS.mod hx) rfl rfl (by rfl)) ?_ | refine D_load rfl rfl (fun x hx => f_loadS (hS.mod hx) rfl rfl (by rfl)) ?_ | refine D_load rfl rfl (fun x hx => f_loadAt (hS.mod hx) rfl rfl) ?_ | refine D_load rfl rfl (fun x hx => f_loadAtS (hS.mod hx) rfl rfl (by rfl)) ?_ | refine D_load rfl rfl (fun x hx => f_loadAtF (hS.mod hx) rfl rfl (by rfl)) ?_); (first | show wpD _ _ _ _ (Act.put _ (some _) _) _ | show wpD _ _ _ _ (Act.put _ none _) _); (simp only [Act.put, List.setIfInBounds_toArray, List.set_cons_zero, List.set_cons_succ])))) | ((with_reducible show wpD _ _ _ ((_, 2) :: _) _ _); ((refine D_calm rfl rfl (does_buildSlice (X := ?_) (cs := ?_) (E := ?_) hS rfl ?_ ?_) ?_); rotate_left 3; (go_simp; rfl); rfl; clear hS; rintro _ wx ⟨bx, rfl, hS, hM⟩; refine ⟨hM, ?_⟩; clear hM; (first | show wpD _ _ _ _ (Act.put _ (some _) _) _ | show wpD _ _ _ _ (Act.put _ none _) _); (simp only [Act.put, List.setIfInBounds_toArray, List.set_cons_zero, List.set_cons_succ]))) | ((with_reducible show wpD _ _ _ ((_, 2) :: _) _ _); ((first | refine D_calm rfl rfl (does_alloc hS rfl (by rfl)) ?_ | refine D_calm rfl rfl (does_box hS rfl rfl (by rfl)) ?_); clear hS; rintro _ wx ⟨bx, rfl, hS, hM⟩; refine ⟨hM, ?_⟩; clear hM; (first | show wpD _ _ _ _ (Act.put _ (some _) _) _ | show wpD _ _ _ _ (Act.put _ none _) _); (simp only [Act.put, List.setIfInBounds_toArray, List.set_cons_zero, List.set_cons_succ]))) | ((with_reducible show wpList _ _ _ (⟨_, Op.box _ _, _, _, _, _⟩ :: _) _ _); refine Does.list (does_box hS rfl rfl (by rfl)) rfl ?_; clear hS; rintro _ wx ⟨bo, rfl, hS, _⟩; (simp only [Act.put, List.setIfInBounds_toArray, List.set_cons_zero, List.set_cons_succ])) | ((with_reducible show wpList _ _ _ (⟨_, Op.alloc _, _, _, _, _⟩ :: _) _ _); refine Does.list (does_alloc hS rfl (by rfl)) rfl ?_; clear hS; rintro _ wx ⟨ba, rfl, hS, _⟩; (simp only [Act.put, List.setIfInBounds_toArray, List.set_cons_zero, List.set_cons_succ])))
  all_goals
   replace hS := Sat.nilRow Rep.int.rows hS
   go_loopw [4] (fun i wr => ∃ (k : Nat) (B2 : Option Addr) (d2 : Nat), i = .int .i64 k ∧ k ≤ rows.length ∧ Sat w wr [.box _ [.slice B1 ns.length d1, .slice B2 k d2, .slice B3 real.length d3], .own Rep.bool.rows [.slice B3 real.length d3] real, .own Rep.int.rows.rows [.slice B2 k d2] (rows.take k), .own Rep.str.rows [.slice B1 ns.length d1] ns, .box _ [.slice none 0 0, .slice none 0 0, .slice none 0 0], .box _ [.slice A1 ns.length c1, .slice A2 rows.length c2, .slice A3 real.length c3], .ro Rep.int.slice.slice [.slice A2 rows.length c2] rows]) (fun i _ => rows.length - (intOf i).toNat)
   case atStart => first | exact ⟨0, none, 0, rfl, Nat.zero_le _, hS.sel [1, 2, 0, 3, 4, 5, 7] rfl (by decide)⟩ | exact ⟨0, none, 0, rfl, Nat.zero_le _, hS.sel [1, 3, 0, 2, 4, 5, 7] rfl (by decide)⟩ | exact ⟨0, none, 0, rfl, Nat.zero_le _, hS.sel [2, 1, 0, 3, 4, 5, 7] rfl (by decide)⟩ | exact ⟨0, none, 0, rfl, Nat.zero_le _, hS.sel [2, 3, 0, 1, 4, 5, 7] rfl (by decide)⟩ | exact ⟨0, none, 0, rfl, Nat.zero_le _, hS.sel [3, 1, 0, 2, 4, 5, 7] rfl (by decide)⟩ | exact ⟨0, none, 0, rfl, Nat.zero_le _, hS.sel [3, 2, 0, 1, 4, 5, 7] rfl (by decide)⟩
   case round =>
     clear hS
     obtain ⟨k, B2, d2, rfl, hk, hS⟩ := hrel
     by_cases hlt : k < rows.length
     · have hltI : (k : Int) < (rows.length : Int) := by omega
       obtain ⟨ad, A', c', rfl, j0, j1, hS⟩ := hS.elSlice Rep.int A2 rows.length c2 (get_some hlt)
       have H : Hid (rows.take k ++ [rows[k]] = rows.take (k + 1)) := Lib.hid (List.take_succ_eq_append_getElem hlt).symm
       have hrb := Hb.out _ (List.getElem_mem hlt)
       obtain ⟨r, hr⟩ : ∃ r, rows[k] = r := ⟨_, rfl⟩
       rw [hr] at hS H hrb j0
       clear hr
       go_wp2_with (first | ((with_reducible show Code.wp _ (Code.region 5 _ true) _ _ _); refine wp_region_drawn [(0, 0), (1, 1), (2, 0), (3, 1), (4, 0), (5, 0), (6, 1), (7, 2), (8, 2), (9, 3), (10, 0), (11, 3)] (by kernel_rfl) (by kernel_rfl) (by intro _ _ dq _ _ hq; cases dq <;> exact hq) ?_; replace hS := hS.mod (Mod.drew (Mod.refl _ _)); (generalize hwd : World.drew _ = wz at hS ⊢); clear hwd) | ((with_reducible show wpD _ _ _ ((_, 2) :: _) _ _); (refine D_call (f := 161) (args := ?_) rfl rfl ?_ ?_); rotate_left 1; (show (Sem.run _ (execOp _ (Oper.mk _ _ _ _ _ _)) _) = _; go_simp; rfl); obtain ⟨Fq, hFq⟩ := hS.has Rep.int.slice [.slice A' r.length c']; refine (spec_l1Copy _ Fq _ _ hFq hrb).mono ?_; rintro e wy ⟨v1, rfl, hN⟩; have hM := hN.mod0; replace hS := hS.fresh hN; clear hN hFq; obtain ⟨A9, c9, rfl⟩ := hS.formOwn 0 rfl; refine ⟨_, rfl, hM, ?_⟩; clear hM; (first | show wpD _ _ _ _ (Act.put _ (some _) _) _ | show wpD _ _ _ _ (Act.put _ none _) _); (simp only [Act.put, List.setIfInBounds_toArray, List.set_cons_zero, List.set_cons_succ])) | ((with_reducible show wpD _ _ _ ((_, 3) :: _) _ _); refine D_loud rfl rfl (f_append Rep.int.rows (Sat.vec1 (Sat.swap hS)) rfl rfl rfl rfl rfl (by decide) (by omega)) ?_; clear hS; rintro _ wx ⟨B2, d2, rfl, hS⟩; (simp only [List.set_cons_zero, List.set_cons_succ] at hS); (first | show wpD _ _ _ _ (Act.put _ (some _) _) _ | show wpD _ _ _ _ (Act.put _ none _) _); (simp only [Act.put, List.setIfInBounds_toArray, List.set_cons_zero, List.set_cons_succ])) | ((with_reducible show wpD _ _ _ ((_, 3) :: _) _ _); refine D_loud rfl rfl (f_store (u := .slice _ _ _) hS rfl rfl rfl (by rfl) (by rfl)) ?_; clear hS; rintro _ wx ⟨rfl, hS⟩; (simp only [List.set_cons_zero, List.set_cons_succ] at hS); (first | show wpD _ _ _ _ (Act.put _ (some _) _) _ | show wpD _ _ _ _ (Act.put _ none _) _); (simp only [Act.put, List.setIfInBounds_toArray, List.set_cons_zero, List.set_cons_succ])) | ((with_reducible show wpD _ _ _ [] _ _); refine D_nil ?_) | ((with_reducible show wpD _ _ _ ((_, 0) :: _) _ _); (first | (refine D_skip rfl rfl ?_; (first | show wpD _ _ _ _ (Act.put _ (some _) _) _ | show wpD _ _ _ _ (Act.put _ none _) _); (simp only [Act.put, List.setIfInBounds_toArray, List.set_cons_zero, List.set_cons_succ])) | (refine D_pure (v := ?_) rfl rfl (fun wq => ?_) ?_; rotate_left 1; (show (Sem.run _ (execOp _ (Oper.mk _ _ _ _ _ _)) _) = _; go_simp; (try go_bits); with_reducible rfl); (first | show wpD _ _ _ _ (Act.put _ (some _) _) _ | show wpD _ _ _ _ (Act.put _ none _) _); (simp only [Act.put, List.setIfInBounds_toArray, List.set_cons_zero, List.set_cons_succ])))) | ((with_reducible show wpD _ _ _ ((_, 1) :: _) _ _); (first | (refine D_skip rfl rfl ?_; (first | show wpD _ _ _ _ (Act.put _ (some _) _) _ | show wpD _ _ _ _ (Act.put _ none _) _); (simp only [Act.put, List.setIfInBounds_toArray, List.set_cons_zero, List.set_cons_succ])) | ((first | refine D_load rfl rfl (fun x hx => f_load (hS.mod hx) rfl rfl (by rfl)) ?_ | refine D_load rfl rfl (fun x hx => f_loadS (hS.mod hx) rfl rfl (by rfl)) ?_ | refine D_load rfl rfl (fun x hx => f_loadAt (hS.mod hx) rfl rfl) ?_ | refine D_load rfl rfl (fun x hx => f_loadAtS (hS.mod hx) rfl rfl (by rfl)) ?_ | refine D_load rfl rfl (fun x hx => f_loadAtF (hS.mod hx) rfl rfl (by rfl)) ?_); (first | show wpD _ _ _ _ (Act.put _ (some _) _) _ | show wpD _ _ _ _ (Act.put _ none _) _); (simp only [Act.put, List.setIfInBounds_toArray, List.set_cons_zero, List.set_cons_succ])))) | ((with_reducible show wpD _ _ _ ((_, 2) :: _) _ _); ((refine D_calm rfl rfl (does_buildSlice (X := ?_) (cs := ?_) (E := ?_) hS rfl ?_ ?_) ?_); rotate_left 3; (go_simp; rfl); rfl; clear hS; rintro _ wx ⟨bx, rfl, hS, hM⟩; refine ⟨hM, ?_⟩; clear hM; (first | show wpD _ _ _ _ (Act.put _ (some _) _) _ | show wpD _ _ _ _ (Act.put _ none _) _); (simp only [Act.put, List.setIfInBounds_toArray, List.set_cons_zero, List.set_cons_succ]))) | ((with_reducible show wpList _ _ _ (⟨_, Op.load _ _, _, _, _, _⟩ :: _) _ _); (first | refine Gives.list (f_load hS rfl rfl (by rfl)) rfl ?_ | refine Gives.list (f_loadS hS rfl rfl (by rfl)) rfl ?_ | refine Gives.list (f_loadAt hS rfl rfl) rfl ?_ | refine Gives.list (f_loadAtS hS rfl rfl (by rfl)) rfl ?_ | refine Gives.list (f_loadAtF hS rfl rfl (by rfl)) rfl ?_); (simp only [Act.put, List.setIfInBounds_toArray, List.set_cons_zero, List.set_cons_succ])))
       go_roundw
       case rel => exact ⟨k + 1, B2, d2, by go_num, hlt, by rw [← H.out]; exact hS.sel [2, 3, 4, 5, 6, 7, 8] rfl (by decide)⟩
       case measure => simp [intOf]; omega
     · obtain rfl : k = rows.length := by omega
       rw [List.take_length] at hS
       go_wp2_with (first | ((with_reducible show wpList _ _ _ (⟨_, Op.load _ _, _, _, _, _⟩ :: _) _ _); (first | refine Gives.list (f_load hS rfl rfl (by rfl)) rfl ?_ | refine Gives.list (f_loadS hS rfl rfl (by rfl)) rfl ?_ | refine Gives.list (f_loadAt hS rfl rfl) rfl ?_ | refine Gives.list (f_loadAtS hS rfl rfl (by rfl)) rfl ?_ | refine Gives.list (f_loadAtF hS rfl rfl (by rfl)) rfl ?_); (simp only [Act.put, List.setIfInBounds_toArray, List.set_cons_zero, List.set_cons_succ])) | ((with_reducible show wpList _ _ _ (⟨_, Op.store _ _ _, _, _, _, _⟩ :: _) _ _); (first | refine Does.list (f_store hS rfl rfl rfl (by rfl) (by rfl)) rfl ?_ | refine Does.list (f_storeS hS rfl rfl rfl (by rfl) (by rfl) (by rfl)) rfl ?_); clear hS; rintro _ wx ⟨rfl, hS⟩; (simp only [List.set_cons_zero, List.set_cons_succ] at hS); (simp only [Act.put, List.setIfInBounds_toArray, List.set_cons_zero, List.set_cons_succ])))
       refine bodyPost_ret (hS.resultCell rfl rfl (by rfl)) rfl ?_
       exact ⟨_, rfl, (Sat.mkPadded (hS.sel (Γ' := [.own Rep.bool.rows [.slice B3 real.length d3] real, .own Rep.int.rows.rows [.slice B2 rows.length d2] rows, .own Rep.str.rows [.slice B1 ns.length d1] ns]) [1, 2, 3] rfl (by decide))).result⟩
end Go.Proofs.YtldknaajnnohiaaDoor
end

section
namespace Go.Proofs.YtldknaajnnohiaaDoor
open Go.RowKit

section
variable {P : Program} {ops : Array Oper} {Q : Exit → Act → World → Prop} {md : Region.Mode} {calm : Nat → Bool} {G : List Nat}
def wpGM (G : List Nat) (P : Program) (ops : Array Oper) (Q : Exit → Act → World → Prop) : OrdM → Act → World → Prop
  | .lin L, a, w => wpG G P ops Q L a w
  | .br L i k A j l B, a, w => wpG G P ops (onN Q fun a w => wpG G P ops (onN Q (wpGM G P ops Q A)) [(i, k)] a w ∧ wpG G P ops (onN Q (wpGM G P ops Q B)) [(j, l)] a w) L a w
  | .tri L i k A j l B m n C, a, w => wpG G P ops (onN Q fun a w => wpG G P ops (onN Q (wpGM G P ops Q A)) [(i, k)] a w ∧ wpG G P ops (onN Q (wpGM G P ops Q B)) [(j, l)] a w ∧ wpG G P ops (onN Q (wpGM G P ops Q C)) [(m, n)] a w) L a w
def chkTreeC (ops : Array Oper) (t : OrdM) : Bool := Region.noSelect ops && (t.len ≤ 4 * ops.size : Bool) && chkM .any ops (fun _ => true) t (Array.replicate ops.size false)
variable {a : Act} {w : World} {i k j l m n : Nat} {L : List (Nat × Nat)} {A B C : OrdM}
end
section
variable {P : Program} {o : Oper} {a : Act} {w w0 x : World} {Γ : List Fact}
/-- The blocks of two variables, found by their places. -/
abbrev gOf {b c : Nat} {us vs : List Value} (_ : Sat w0 w Γ) (i j : Nat) (_ : Γ[i]? = some (.box b us)) (_ : Γ[j]? = some (.box c vs)) : List Nat := [b, c]
end
end Go.Proofs.YtldknaajnnohiaaDoor
end
