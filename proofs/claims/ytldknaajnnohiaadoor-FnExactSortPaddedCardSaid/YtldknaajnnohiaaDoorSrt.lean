/- Stable sorting of an int slice of one's own: the plain laws; ranges that change places; the rotation. -/
import Derived.Test.YtldknaajnnohiaaDoorSho
import Derived.Test.YtldknaajnnohiaaDoorApnd
import Derived.Test.YtldknaajnnohiaaDoorFind
import Derived.Test.YtldknaajnnohiaaDoorTys
section
namespace Go.Proofs.YtldknaajnnohiaaDoor
open Go.RowKit
/-! ### Swaps of two cells, of two ranges; the rotation -/
section
variable {α : Type}
theorem setM_mid {pre post : List α} {x y : α} {k : Nat} (h : pre.length = k) : (pre ++ x :: post).set k y = pre ++ y :: post := by
  subst h; simp
theorem getM_mid {pre post : List α} {x : α} {k : Nat} (h : pre.length = k) : (pre ++ x :: post)[k]? = some x := by
  subst h; simp
/-- What stands when k of n cells have changed places. -/
def swk (pre U M V post : List α) (k : Nat) : List α := pre ++ (V.take k ++ U.drop k) ++ M ++ (U.take k ++ V.drop k) ++ post
theorem swk_zero (pre U M V post : List α) : swk pre U M V post 0 = pre ++ U ++ M ++ V ++ post := by simp [swk]
theorem swk_end (pre U M V post : List α) (h : U.length = V.length) : swk pre U M V post V.length = pre ++ V ++ M ++ U ++ post := by
  unfold swk
  rw [List.take_length, List.drop_of_length_le (by omega), List.take_of_length_le (by omega), List.drop_length]
  simp
variable {pre U M V post : List α} {k : Nat}
theorem swk_len : (swk pre U M V post k).length = (pre ++ U ++ M ++ V ++ post).length := by
  simp only [swk, List.length_append, List.length_take, List.length_drop]; omega
theorem swk_form (hu : k < U.length) (hv : k < V.length) : swk pre U M V post k = (pre ++ V.take k) ++ U[k] :: (U.drop (k + 1) ++ M ++ U.take k ++ V[k] :: (V.drop (k + 1) ++ post)) := by
  unfold swk
  rw [List.drop_eq_getElem_cons hu, List.drop_eq_getElem_cons hv]
  simp only [List.append_assoc, List.cons_append, List.nil_append]
theorem swk_form2 (hu : k < U.length) (hv : k < V.length) : swk pre U M V post k = (pre ++ V.take k ++ U[k] :: (U.drop (k + 1) ++ M ++ U.take k)) ++ V[k] :: (V.drop (k + 1) ++ post) := by
  rw [swk_form hu hv]; simp [List.append_assoc]
theorem swk_a (hu : k < U.length) (hv : k < V.length) : (swk pre U M V post k)[pre.length + k]? = some U[k] := by
  rw [swk_form hu hv]
  exact getM_mid (by simp only [List.length_append, List.length_take]; omega)
theorem swk_b (hu : k < U.length) (hv : k < V.length) : (swk pre U M V post k)[pre.length + U.length + M.length + k]? = some V[k] := by
  rw [swk_form2 hu hv]
  exact getM_mid (by simp only [List.length_append, List.length_take, List.length_cons, List.length_drop]; omega)
theorem swk_succ (hu : k < U.length) (hv : k < V.length) : ((swk pre U M V post k).set (pre.length + k) V[k]).set (pre.length + U.length + M.length + k) U[k] = swk pre U M V post (k + 1) := by
  rw [swk_form hu hv, setM_mid (by simp only [List.length_append, List.length_take]; omega)]
  have e : pre ++ V.take k ++ V[k] :: (U.drop (k + 1) ++ M ++ U.take k ++ V[k] :: (V.drop (k + 1) ++ post)) = (pre ++ V.take k ++ V[k] :: (U.drop (k + 1) ++ M ++ U.take k)) ++ V[k] :: (V.drop (k + 1) ++ post) := by simp [List.append_assoc]
  rw [e, setM_mid (by simp only [List.length_append, List.length_take, List.length_cons, List.length_drop]; omega)]
  unfold swk
  rw [List.take_succ_eq_append_getElem hu, List.take_succ_eq_append_getElem hv]
  simp only [List.append_assoc, List.cons_append, List.nil_append]
end

/-! ### Order -/
section
variable {α : Type} (le : α → α → Prop)
structure Pre : Prop where
  total : ∀ x y, le x y ∨ le y x
  trans : ∀ {x y z}, le x y → le y z → le x z
variable {le} (hle : Pre le)
abbrev Srt (le : α → α → Prop) (l : List α) : Prop := l.Pairwise le
theorem srt_append {a b : List α} : Srt le (a ++ b) ↔ Srt le a ∧ Srt le b ∧ ∀ x ∈ a, ∀ y ∈ b, le x y := List.pairwise_append
include hle in
theorem Pre.refl (x : α) : le x x := (hle.total x x).elim id id
/-- Two halves, each put in order, stand in order. -/
theorem halves {L1 L2 R1 R2 Y1 Y2 : List α} (hL : Srt le (L1 ++ L2)) (hR : Srt le (R1 ++ R2)) (h12 : ∀ x ∈ L1, ∀ y ∈ R2, le x y) (h21 : ∀ x ∈ R1, ∀ y ∈ L2, le x y) (p1 : Y1.Perm (L1 ++ R1)) (p2 : Y2.Perm (L2 ++ R2)) (s1 : Srt le Y1) (s2 : Srt le Y2) :
    Srt le (Y1 ++ Y2) ∧ (Y1 ++ Y2).Perm ((L1 ++ L2) ++ (R1 ++ R2)) := by
  constructor
  · refine srt_append.2 ⟨s1, s2, fun x hx y hy => ?_⟩
    have hx' := p1.mem_iff.1 hx
    have hy' := p2.mem_iff.1 hy
    rcases List.mem_append.1 hx' with h | h <;> rcases List.mem_append.1 hy' with k | k
    · exact (srt_append.1 hL).2.2 x h y k
    · exact h12 x h y k
    · exact h21 x h y k
    · exact (srt_append.1 hR).2.2 x h y k
  · refine (p1.append p2).trans ?_
    simp only [List.append_assoc]
    refine List.Perm.append_left L1 ?_
    rw [← List.append_assoc, ← List.append_assoc]
    exact List.Perm.append_right R2 List.perm_append_comm
include hle in
/-- The last of a row in order is behind all; the first is before all. -/
theorem below_last {l : List α} {x : α} (h : Srt le (l ++ [x])) : ∀ y ∈ l ++ [x], le y x := by
  intro y hy
  rcases List.mem_append.1 hy with h1 | h1
  · exact (srt_append.1 h).2.2 y h1 x (by simp)
  · rw [List.mem_singleton.1 h1]; exact hle.refl x
include hle in
theorem above_first {l : List α} {x : α} (h : Srt le (x :: l)) : ∀ y ∈ x :: l, le x y := by
  intro y hy
  rcases List.mem_cons.1 hy with rfl | h1
  · exact hle.refl y
  · exact List.rel_of_pairwise_cons h h1
include hle in
theorem srt_get {l : List α} (h : Srt le l) {i j : Nat} (hij : i ≤ j) (hj : j < l.length) : le (l[i]'(by omega)) l[j] := by
  rcases Nat.lt_or_eq_of_le hij with h1 | h1
  · exact List.pairwise_iff_getElem.1 h i j (by omega) hj h1
  · subst h1; exact hle.refl _
include hle in
/-- The cut of symMerge: L and R in order, s of L's and e of R's cells (s + e is given): what the search says at its end makes the two halves. -/
theorem cut_ok {L R : List α} (hL : Srt le L) (hR : Srt le R) {s e : Nat} (hs : s ≤ L.length) (he : e ≤ R.length)
    (h1 : ∀ (h : 0 < s) (h' : e < R.length), le (L[s - 1]'(by omega)) R[e]) (h2 : ∀ (h : s < L.length) (h' : 0 < e), le (R[e - 1]'(by omega)) L[s]) :
    (∀ x ∈ L.take s, ∀ y ∈ R.drop e, le x y) ∧ (∀ x ∈ R.take e, ∀ y ∈ L.drop s, le x y) := by
  constructor
  · intro x hx y hy
    obtain ⟨i, hi, rfl⟩ := List.mem_iff_getElem.1 hx
    obtain ⟨j, hj, rfl⟩ := List.mem_iff_getElem.1 hy
    rw [List.length_take] at hi
    rw [List.length_drop] at hj
    rw [List.getElem_take, List.getElem_drop]
    exact hle.trans (srt_get hle hL (i := i) (j := s - 1) (by omega) (by omega)) (hle.trans (h1 (by omega) (by omega)) (srt_get hle hR (i := e) (j := e + j) (by omega) (by omega)))
  · intro x hx y hy
    obtain ⟨i, hi, rfl⟩ := List.mem_iff_getElem.1 hx
    obtain ⟨j, hj, rfl⟩ := List.mem_iff_getElem.1 hy
    rw [List.length_take] at hi
    rw [List.length_drop] at hj
    rw [List.getElem_take, List.getElem_drop]
    exact hle.trans (srt_get hle hR (i := i) (j := e - 1) (by omega) (by omega)) (hle.trans (h2 (by omega) (by omega)) (srt_get hle hL (i := s) (j := s + j) (by omega) (by omega)))
/-- One cell put into a row in order. -/
theorem insert_ok {A B : List α} {x : α} (h : Srt le (A ++ B)) (h1 : ∀ y ∈ A, le y x) (h2 : ∀ y ∈ B, le x y) : Srt le (A ++ x :: B) := by
  have h3 := srt_append.1 h
  refine srt_append.2 ⟨h3.1, List.pairwise_cons.2 ⟨h2, h3.2.1⟩, fun y hy z hz => ?_⟩
  rcases List.mem_cons.1 hz with rfl | hz
  · exact h1 y hy
  · exact h3.2.2 y hy z hz
end

theorem results_none {fn : Func} (h : fn.results = #[]) (tmps : Array Value) (P : Program) (w : World) : (results fn tmps).run P w = .ok (.tuple #[]) w := by
  simp [results, h]

/-! ### Ranges that change places -/
set_option maxHeartbeats 4000000 in
set_option maxRecDepth 8000 in
theorem swapRange_w {w0 w : World} {Γ : List Fact} (g off N c : Nat) (cv : Value) (pre U M V post : List Int) (a b n : Nat) (hN : (pre ++ U ++ M ++ V ++ post).length = N) (hN2 : N ≤ 1000000000) (hUV : U.length = V.length) (ha : pre.length = a) (hb : pre.length + U.length + M.length = b) (hn : V.length = n)
    (hS : Sat w0 w (.own Rep.int.rows [.slice (some ⟨g, off, none⟩) N c] (pre ++ U ++ M ++ V ++ post) :: Γ)) :
    Calls Tryd.prog 210 #[.slice (some ⟨g, off, none⟩) N c, .int .i64 (a : Int), .int .i64 (b : Int), .int .i64 (n : Int), cv] w fun e w' => e = .returned (.tuple #[]) ∧ Sat w0 w' (.own Rep.int.rows [.slice (some ⟨g, off, none⟩) N c] (pre ++ V ++ M ++ U ++ post) :: Γ) := by
  have hbN : b + n ≤ N := by
    rw [← hN]; simp only [List.length_append]; omega
  have haN : a + n ≤ b := by omega
  rw [← swk_zero] at hS
  have HE := Lib.hid (swk_end pre U M V post hUV)
  rw [hn] at HE
  go_enter Tryd.func210, Tryd.ntmps210
  go_wp2_with (first | ((with_reducible show wpList _ _ _ (⟨_, Op.load _ _, _, _, _, _⟩ :: _) _ _); (first | refine Gives.list (f_load hS rfl rfl (by rfl)) rfl ?_ | refine Gives.list (f_loadS hS rfl rfl (by rfl)) rfl ?_ | refine Gives.list (f_loadAt hS rfl rfl) rfl ?_ | refine Gives.list (f_loadAtS hS rfl rfl (by rfl)) rfl ?_ | refine Gives.list (f_loadAtF hS rfl rfl (by rfl)) rfl ?_); (simp only [Act.put, sA, sZ, sS])))
  go_loopw [10] (fun i wr => ∃ k : Nat, i = .int .i64 k ∧ k ≤ n ∧ Sat w0 wr (.own Rep.int.rows [.slice (some ⟨g, off, none⟩) N c] (swk pre U M V post k) :: Γ)) (fun i _ => n - (intOf i).toNat)
  case atStart => exact ⟨0, rfl, Nat.zero_le _, hS⟩
  case round =>
    clear hS
    obtain ⟨k, rfl, hk, hS⟩ := hrel
    by_cases hlt : k < n
    · have hltI : (k : Int) < (n : Int) := by omega
      have hu : k < U.length := by omega
      have hv : k < V.length := by omega
      have Ha := swk_a (pre := pre) (M := M) (post := post) hu hv
      have Hb := swk_b (pre := pre) (M := M) (post := post) hu hv
      have Hs := swk_succ (pre := pre) (M := M) (post := post) hu hv
      rw [hb] at Hb Hs
      rw [ha] at Ha Hs
      obtain ⟨ia, hia0⟩ : ∃ x, a + k = x := ⟨_, rfl⟩
      obtain ⟨ib, hib0⟩ : ∃ x, b + k = x := ⟨_, rfl⟩
      have hwa : IntKind.i64.wrap ((a : Int) + (k : Int)) = (ia : Int) := by rw [IntWalk.i64_in _ (by omega)]; omega
      have hwb : IntKind.i64.wrap ((b : Int) + (k : Int)) = (ib : Int) := by rw [IntWalk.i64_in _ (by omega)]; omega
      have hia : ia < N := by omega
      have hib : ib < N := by omega
      have hiaI : (ia : Int) < (N : Int) := by omega
      have hibI : (ib : Int) < (N : Int) := by omega
      rw [hia0] at Ha Hs
      rw [hib0] at Hb Hs
      obtain ⟨x, hx⟩ : ∃ x, U[k] = x := ⟨_, rfl⟩
      obtain ⟨y, hy⟩ : ∃ y, V[k] = y := ⟨_, rfl⟩
      obtain ⟨Y, hY⟩ : ∃ Y, swk pre U M V post k = Y := ⟨_, rfl⟩
      rw [hx, hY] at Ha
      rw [hy, hY] at Hb
      rw [hx, hy, hY] at Hs
      rw [hY] at hS
      obtain ⟨⟨_, _, _, _, _, Ix⟩, _⟩ := hS.rowCell (e := Rep.int) 0 rfl rfl Ha
      obtain ⟨⟨_, _, _, _, _, Iy⟩, _⟩ := hS.rowCell (e := Rep.int) 0 rfl rfl Hb
      have Ix := Lib.hid Ix
      have Iy := Lib.hid Iy
      have Ha := Lib.hid Ha
      have Hb := Lib.hid Hb
      have Hs := Lib.hid Hs
      clear hx hy hY hia0 hib0 hu hv
      go_wp2_with (first | ((with_reducible show Code.wp _ (Code.region 3 _ true) _ _ _); refine wp_region_drawn [(0, 0), (1, 0), (2, 0), (3, 0), (4, 0), (5, 0), (6, 0), (7, 0), (8, 0), (9, 0), (10, 0), (11, 0), (12, 0), (13, 1), (14, 0), (15, 0), (16, 0), (17, 0), (18, 0), (19, 1), (20, 0), (21, 3), (22, 0), (23, 3)] (by kernel_rfl) (by kernel_rfl) (by intro _ _ dq _ _ hq; cases dq <;> exact hq) ?_; replace hS := hS.mod (Mod.drew (Mod.refl _ _)); (generalize hwd : World.drew _ = wz at hS ⊢); clear hwd) | ((with_reducible show wpD _ _ _ ((_, 1) :: _) _ _); (first | refine D_load rfl rfl (fun x hx => f_loadRow (g := g) (off := off) (k := ia) (n := N) (c := c) (hS.mod hx) rfl rfl Ha.out) ?_ | refine D_load rfl rfl (fun x hx => f_loadRow (g := g) (off := off) (k := ib) (n := N) (c := c) (hS.mod hx) rfl rfl Hb.out) ?_); (first | show wpD _ _ _ _ (Act.put _ (some _) _) _ | show wpD _ _ _ _ (Act.put _ none _) _); (simp only [Act.put, sA, sZ, sS])) | ((with_reducible show wpD _ _ _ ((_, 3) :: _) _ _); (first | refine D_loud rfl rfl (does_storeEl (e := Rep.int) (k := ia) 0 (hS.int Iy.out) rfl rfl rfl rfl rfl rfl hia) ?_ | refine D_loud rfl rfl (does_storeEl (e := Rep.int) (k := ib) 0 (hS.int Ix.out) rfl rfl rfl rfl rfl rfl hib) ?_); clear hS; rintro _ wx ⟨rfl, hS⟩; (simp only [sZ, sS] at hS); (first | show wpD _ _ _ _ (Act.put _ (some _) _) _ | show wpD _ _ _ _ (Act.put _ none _) _); (simp only [Act.put, sA, sZ, sS])) | ((with_reducible show wpD _ _ _ [] _ _); refine D_nil ?_) | ((with_reducible show wpD _ _ _ ((_, 0) :: _) _ _); (first | (refine D_skip rfl rfl ?_; (first | show wpD _ _ _ _ (Act.put _ (some _) _) _ | show wpD _ _ _ _ (Act.put _ none _) _); (simp only [Act.put, sA, sZ, sS])) | (refine D_pure (v := ?_) rfl rfl (fun wq => ?_) ?_; rotate_left 1; (show (Sem.run _ (execOp _ (Oper.mk _ _ _ _ _ _)) _) = _; go_simp; (try go_bits); with_reducible rfl); (first | show wpD _ _ _ _ (Act.put _ (some _) _) _ | show wpD _ _ _ _ (Act.put _ none _) _); (simp only [Act.put, sA, sZ, sS])))) | ((with_reducible show wpD _ _ _ ((_, 1) :: _) _ _); (first | (refine D_skip rfl rfl ?_; (first | show wpD _ _ _ _ (Act.put _ (some _) _) _ | show wpD _ _ _ _ (Act.put _ none _) _); (simp only [Act.put, sA, sZ, sS])) | ((first | refine D_load rfl rfl (fun x hx => f_load (hS.mod hx) rfl rfl (by rfl)) ?_ | refine D_load rfl rfl (fun x hx => f_loadS (hS.mod hx) rfl rfl (by rfl)) ?_ | refine D_load rfl rfl (fun x hx => f_loadAt (hS.mod hx) rfl rfl) ?_ | refine D_load rfl rfl (fun x hx => f_loadAtS (hS.mod hx) rfl rfl (by rfl)) ?_ | refine D_load rfl rfl (fun x hx => f_loadAtF (hS.mod hx) rfl rfl (by rfl)) ?_); (first | show wpD _ _ _ _ (Act.put _ (some _) _) _ | show wpD _ _ _ _ (Act.put _ none _) _); (simp only [Act.put, sA, sZ, sS])))) | ((with_reducible show wpD _ _ _ ((_, 2) :: _) _ _); (refine D_skip rfl rfl ?_; (first | show wpD _ _ _ _ (Act.put _ (some _) _) _ | show wpD _ _ _ _ (Act.put _ none _) _); (simp only [Act.put, sA, sZ, sS]))) | ((with_reducible show wpD _ _ _ ((_, 3) :: _) _ _); (refine D_skip rfl rfl ?_; (first | show wpD _ _ _ _ (Act.put _ (some _) _) _ | show wpD _ _ _ _ (Act.put _ none _) _); (simp only [Act.put, sA, sZ, sS]))) | ((with_reducible show wpList _ _ _ (⟨_, Op.load _ _, _, _, _, _⟩ :: _) _ _); (first | refine Gives.list (f_load hS rfl rfl (by rfl)) rfl ?_ | refine Gives.list (f_loadS hS rfl rfl (by rfl)) rfl ?_ | refine Gives.list (f_loadAt hS rfl rfl) rfl ?_ | refine Gives.list (f_loadAtS hS rfl rfl (by rfl)) rfl ?_ | refine Gives.list (f_loadAtF hS rfl rfl (by rfl)) rfl ?_); (simp only [Act.put, sA, sZ, sS])))
      go_roundw
      case rel => exact ⟨k + 1, by go_num, hlt, by rw [← Hs.out]; exact hS⟩
      case measure => simp [intOf]; omega
    · obtain rfl : k = n := by omega
      rw [HE.out] at hS
      go_wp2_with (first | ((with_reducible show wpList _ _ _ (⟨_, Op.load _ _, _, _, _, _⟩ :: _) _ _); (first | refine Gives.list (f_load hS rfl rfl (by rfl)) rfl ?_ | refine Gives.list (f_loadS hS rfl rfl (by rfl)) rfl ?_ | refine Gives.list (f_loadAt hS rfl rfl) rfl ?_ | refine Gives.list (f_loadAtS hS rfl rfl (by rfl)) rfl ?_ | refine Gives.list (f_loadAtF hS rfl rfl (by rfl)) rfl ?_); (simp only [Act.put, sA, sZ, sS])))
      (try simp only [Exit.inBlock, Exit.then]); (first | refine bodyPost_ret (results_none rfl _ _ _) rfl ?_ | refine bodyPost_end (results_none rfl _ _ _) rfl ?_)
      exact ⟨rfl, hS⟩

end Go.Proofs.YtldknaajnnohiaaDoor
end

section
namespace Go.Proofs.YtldknaajnnohiaaDoor
open Go.RowKit

/-! ### The rotation -/
set_option maxHeartbeats 4000000 in
set_option maxRecDepth 8000 in
theorem rotate_w {w0 w : World} {Γ : List Fact} (g off N c : Nat) (cv : Value) (pre A B post : List Int) (a m b : Nat) (hN : (pre ++ A ++ B ++ post).length = N) (hN2 : N ≤ 1000000000) (ha : pre.length = a) (hm : pre.length + A.length = m) (hb : pre.length + A.length + B.length = b) (hA : 1 ≤ A.length) (hB : 1 ≤ B.length)
    (hS : Sat w0 w (.own Rep.int.rows [.slice (some ⟨g, off, none⟩) N c] (pre ++ A ++ B ++ post) :: Γ)) :
    Calls Tryd.prog 208 #[.slice (some ⟨g, off, none⟩) N c, .int .i64 (a : Int), .int .i64 (m : Int), .int .i64 (b : Int), cv] w fun e w' => e = .returned (.tuple #[]) ∧ Sat w0 w' (.own Rep.int.rows [.slice (some ⟨g, off, none⟩) N c] (pre ++ B ++ A ++ post) :: Γ) := by
  have hNb : b ≤ N := by rw [← hN]; simp only [List.length_append]; omega
  have hw1 : IntKind.i64.wrap ((m : Int) - (a : Int)) = ((A.length : Nat) : Int) := by rw [IntWalk.i64_in _ (by omega)]; omega
  have hw2 : IntKind.i64.wrap ((b : Int) - (m : Int)) = ((B.length : Nat) : Int) := by rw [IntWalk.i64_in _ (by omega)]; omega
  have HN := Lib.hid hN
  clear hN
  go_enter Tryd.func208, Tryd.ntmps208
  go_wp2_with (first | ((with_reducible show wpList _ _ _ (⟨_, Op.load _ _, _, _, _, _⟩ :: _) _ _); (first | refine Gives.list (f_load hS rfl rfl (by rfl)) rfl ?_ | refine Gives.list (f_loadS hS rfl rfl (by rfl)) rfl ?_ | refine Gives.list (f_loadAt hS rfl rfl) rfl ?_ | refine Gives.list (f_loadAtS hS rfl rfl (by rfl)) rfl ?_ | refine Gives.list (f_loadAtF hS rfl rfl (by rfl)) rfl ?_); (simp only [Act.put, sA, sZ, sS])))
  go_loopw [10, 11] (fun i j wr => ∃ (P A' B' S : List Int), i = .int .i64 (A'.length : Nat) ∧ j = .int .i64 (B'.length : Nat) ∧ 1 ≤ A'.length ∧ 1 ≤ B'.length ∧ pre.length + P.length + A'.length = m ∧ A'.length + B'.length ≤ A.length + B.length ∧ Hid (P ++ (B' ++ A') ++ S = B ++ A) ∧ Sat w0 wr (.own Rep.int.rows [.slice (some ⟨g, off, none⟩) N c] (pre ++ P ++ A' ++ B' ++ (S ++ post)) :: Γ)) (fun i j _ => (intOf i).toNat + (intOf j).toNat)
  case atStart => exact ⟨[], A, B, [], rfl, rfl, hA, hB, by simpa using hm, Nat.le_refl _, Lib.hid (by simp), by simpa using hS⟩
  case round =>
    clear hS hw1 hw2
    obtain ⟨P, A', B', S, rfl, rfl, hA', hB', hm', hle, hEq, hS⟩ := hrel
    have hlen : (pre ++ P ++ A' ++ B' ++ (S ++ post)).length = N := by
      have h1 := congrArg List.length hEq.out
      have h2 := HN.out
      simp only [List.length_append] at h1 h2 ⊢
      omega
    obtain ⟨i, hi⟩ : ∃ i, A'.length = i := ⟨_, rfl⟩
    obtain ⟨j, hj⟩ : ∃ j, B'.length = j := ⟨_, rfl⟩
    rw [hi] at hA' hm' hle
    rw [hj] at hB' hle
    have hiN : i + j ≤ N := by rw [← hlen]; simp only [List.length_append]; omega
    have hmN : m + j ≤ N := by rw [← hlen]; simp only [List.length_append]; omega
    have him : i ≤ m := by omega
    have hpm : (pre ++ P).length = m - i := by rw [List.length_append]; omega
    have hw1 : IntKind.i64.wrap ((m : Int) - (i : Int)) = ((m - i : Nat) : Int) := by rw [IntWalk.i64_in _ (by omega)]; omega
    have Hlen := Lib.hid hlen
    have Hpm := Lib.hid hpm
    clear hlen hpm
    obtain ⟨q1, hq1⟩ : ∃ x, m - i = x := ⟨_, rfl⟩
    obtain ⟨mj, hmj⟩ : ∃ x, m + j = x := ⟨_, rfl⟩
    rw [hq1] at hw1 Hpm
    rcases Nat.lt_trichotomy i j with hij | hij | hij
    · have hB12 : B'.take (j - i) ++ B'.drop (j - i) = B' := List.take_append_drop _ _
      obtain ⟨B1, hB1⟩ : ∃ x, B'.take (j - i) = x := ⟨_, rfl⟩
      obtain ⟨B2, hB2⟩ : ∃ x, B'.drop (j - i) = x := ⟨_, rfl⟩
      have hl1 : B1.length = j - i := by rw [← hB1, List.length_take]; omega
      have hl2 : B2.length = i := by rw [← hB2, List.length_drop]; omega
      rw [hB1, hB2] at hB12
      clear hB1 hB2
      subst hB12
      have e1 : pre ++ P ++ A' ++ (B1 ++ B2) ++ (S ++ post) = (pre ++ P) ++ A' ++ B1 ++ B2 ++ (S ++ post) := by simp only [List.append_assoc]
      have e2 : (pre ++ P) ++ B2 ++ B1 ++ A' ++ (S ++ post) = pre ++ P ++ B2 ++ B1 ++ ((A' ++ S) ++ post) := by simp only [List.append_assoc]
      have HL2 := Lib.hid (e1 ▸ Hlen.out)
      have E2 := Lib.hid e2
      rw [e1] at hS
      have E3 : Hid (P ++ (B1 ++ B2) ++ (A' ++ S) = B ++ A) := Lib.hid (by rw [← hEq.out]; simp only [List.append_assoc])
      obtain ⟨q2, hq2⟩ : ∃ x, mj - i = x := ⟨_, rfl⟩
      obtain ⟨q3, hq3⟩ : ∃ x, j - i = x := ⟨_, rfl⟩
      rw [hq3] at hl1
      have hw2 : IntKind.i64.wrap ((m : Int) + (j : Int)) = (mj : Int) := by rw [IntWalk.i64_in _ (by omega)]; omega
      have hw3 : IntKind.i64.wrap ((mj : Int) - (i : Int)) = (q2 : Int) := by rw [IntWalk.i64_in _ (by omega)]; omega
      have hw4 : IntKind.i64.wrap ((j : Int) - (i : Int)) = (q3 : Int) := by rw [IntWalk.i64_in _ (by omega)]; omega
      have hne : ((i : Int) != (j : Int)) = true := by rw [bne_iff_ne]; omega
      have hgt : decide ((j : Int) < (i : Int)) = false := by simp; omega
      have hgtI : ¬ (j : Int) < (i : Int) := by omega
      have Hi := Lib.hid hi
      have Hl1 := Lib.hid hl1
      have Hl2 := Lib.hid hl2
      rw [hi, hj]
      clear hi hj hl1 hl2 e1 e2 hEq Hlen
      go_wp2_with (first | (go_at_call 210; (with_reducible show Calls _ _ #[_, Value.int IntKind.i64 (q1 : Int), Value.int IntKind.i64 (q2 : Int), Value.int IntKind.i64 (i : Int), _] _ _); refine (swapRange_w g off N c cv (pre ++ P) A' B1 B2 (S ++ post) q1 q2 i HL2.out hN2 (by rw [Hi.out, Hl2.out]) Hpm.out (by rw [Hpm.out, Hi.out, Hl1.out]; omega) Hl2.out hS).mono ?_; clear hS; rintro e w' ⟨rfl, hS⟩) | ((with_reducible show wpList _ _ _ (⟨_, Op.load _ _, _, _, _, _⟩ :: _) _ _); (first | refine Gives.list (f_load hS rfl rfl (by rfl)) rfl ?_ | refine Gives.list (f_loadS hS rfl rfl (by rfl)) rfl ?_ | refine Gives.list (f_loadAt hS rfl rfl) rfl ?_ | refine Gives.list (f_loadAtS hS rfl rfl (by rfl)) rfl ?_ | refine Gives.list (f_loadAtF hS rfl rfl (by rfl)) rfl ?_); (simp only [Act.put, sA, sZ, sS])))
      go_roundw
      case rel => exact ⟨P, B2, B1, A' ++ S, by rw [Hl2.out], by rw [Hl1.out], by rw [Hl2.out]; omega, by rw [Hl1.out]; omega, by rw [Hl2.out]; omega, by rw [Hl2.out, Hl1.out]; omega, E3, by rw [← E2.out]; exact hS⟩
      case measure => simp [intOf]; omega
    · subst hij
      have e1 : pre ++ P ++ A' ++ B' ++ (S ++ post) = (pre ++ P) ++ A' ++ [] ++ B' ++ (S ++ post) := by simp only [List.append_assoc, List.nil_append]
      have HL2 := Lib.hid (e1 ▸ Hlen.out)
      rw [e1] at hS
      have E2 : Hid ((pre ++ P) ++ B' ++ [] ++ A' ++ (S ++ post) = pre ++ B ++ A ++ post) := Lib.hid (by
        have h := hEq.out
        have : pre ++ B ++ A ++ post = pre ++ (B ++ A) ++ post := by simp only [List.append_assoc]
        rw [this, ← h]; simp only [List.append_assoc, List.nil_append])
      have hne : ((i : Int) != (i : Int)) = false := by simp
      have Hi := Lib.hid hi
      have Hj := Lib.hid hj
      rw [hi, hj]
      clear hi hj e1 hEq Hlen
      go_wp2_with (first | (go_at_call 210; (with_reducible show Calls _ _ #[_, Value.int IntKind.i64 (q1 : Int), Value.int IntKind.i64 (m : Int), Value.int IntKind.i64 (i : Int), _] _ _); refine (swapRange_w g off N c cv (pre ++ P) A' [] B' (S ++ post) q1 m i HL2.out hN2 (by rw [Hi.out, Hj.out]) Hpm.out (by rw [Hpm.out, Hi.out]; simp; omega) Hj.out hS).mono ?_; clear hS; rintro e w' ⟨rfl, hS⟩) | ((with_reducible show wpList _ _ _ (⟨_, Op.load _ _, _, _, _, _⟩ :: _) _ _); (first | refine Gives.list (f_load hS rfl rfl (by rfl)) rfl ?_ | refine Gives.list (f_loadS hS rfl rfl (by rfl)) rfl ?_ | refine Gives.list (f_loadAt hS rfl rfl) rfl ?_ | refine Gives.list (f_loadAtS hS rfl rfl (by rfl)) rfl ?_ | refine Gives.list (f_loadAtF hS rfl rfl (by rfl)) rfl ?_); (simp only [Act.put, sA, sZ, sS])))
      (try simp only [Exit.inBlock, Exit.then]); (first | refine bodyPost_ret (results_none rfl _ _ _) rfl ?_ | refine bodyPost_end (results_none rfl _ _ _) rfl ?_)
      rw [E2.out] at hS
      exact ⟨rfl, hS⟩
    · have hA12 : A'.take j ++ A'.drop j = A' := List.take_append_drop _ _
      obtain ⟨A1, hA1⟩ : ∃ x, A'.take j = x := ⟨_, rfl⟩
      obtain ⟨A2, hA2⟩ : ∃ x, A'.drop j = x := ⟨_, rfl⟩
      have hl1 : A1.length = j := by rw [← hA1, List.length_take]; omega
      have hl2 : A2.length = i - j := by rw [← hA2, List.length_drop]; omega
      rw [hA1, hA2] at hA12
      clear hA1 hA2
      subst hA12
      have e1 : pre ++ P ++ (A1 ++ A2) ++ B' ++ (S ++ post) = (pre ++ P) ++ A1 ++ A2 ++ B' ++ (S ++ post) := by simp only [List.append_assoc]
      have e2 : (pre ++ P) ++ B' ++ A2 ++ A1 ++ (S ++ post) = pre ++ (P ++ B') ++ A2 ++ A1 ++ (S ++ post) := by simp only [List.append_assoc]
      have HL2 := Lib.hid (e1 ▸ Hlen.out)
      have E2 := Lib.hid e2
      rw [e1] at hS
      have E3 : Hid ((P ++ B') ++ (A1 ++ A2) ++ S = B ++ A) := Lib.hid (by rw [← hEq.out]; simp only [List.append_assoc])
      obtain ⟨q3, hq3⟩ : ∃ x, i - j = x := ⟨_, rfl⟩
      rw [hq3] at hl2
      have hw4 : IntKind.i64.wrap ((i : Int) - (j : Int)) = (q3 : Int) := by rw [IntWalk.i64_in _ (by omega)]; omega
      have hne : ((i : Int) != (j : Int)) = true := by rw [bne_iff_ne]; omega
      have hgtI : (j : Int) < (i : Int) := by omega
      have Hj := Lib.hid hj
      have Hl1 := Lib.hid hl1
      have Hl2 := Lib.hid hl2
      rw [hi, hj]
      clear hi hj hl1 hl2 e1 e2 hEq Hlen
      go_wp2_with (first | (go_at_call 210; (with_reducible show Calls _ _ #[_, Value.int IntKind.i64 (q1 : Int), Value.int IntKind.i64 (m : Int), Value.int IntKind.i64 (j : Int), _] _ _); refine (swapRange_w g off N c cv (pre ++ P) A1 A2 B' (S ++ post) q1 m j HL2.out hN2 (by rw [Hl1.out, Hj.out]) Hpm.out (by rw [Hpm.out, Hl1.out, Hl2.out]; omega) Hj.out hS).mono ?_; clear hS; rintro e w' ⟨rfl, hS⟩) | ((with_reducible show wpList _ _ _ (⟨_, Op.load _ _, _, _, _, _⟩ :: _) _ _); (first | refine Gives.list (f_load hS rfl rfl (by rfl)) rfl ?_ | refine Gives.list (f_loadS hS rfl rfl (by rfl)) rfl ?_ | refine Gives.list (f_loadAt hS rfl rfl) rfl ?_ | refine Gives.list (f_loadAtS hS rfl rfl (by rfl)) rfl ?_ | refine Gives.list (f_loadAtF hS rfl rfl (by rfl)) rfl ?_); (simp only [Act.put, sA, sZ, sS])))
      go_roundw
      case rel => exact ⟨P ++ B', A2, A1, S, by rw [Hl2.out], by rw [Hl1.out], by rw [Hl2.out]; omega, by rw [Hl1.out]; omega, by rw [List.length_append, Hj.out, Hl2.out]; omega, by rw [Hl2.out, Hl1.out]; omega, E3, by rw [← E2.out]; exact hS⟩
      case measure => simp [intOf]; omega
end Go.Proofs.YtldknaajnnohiaaDoor
end
