/- Stable sorting of an int slice of one's own: the plain laws; ranges that change places; the rotation. -/
import Derived.Test.YtldknaajnnohiaaDoorSho
import Derived.Test.YtldknaajnnohiaaDoorApnd
import Derived.Test.YtldknaajnnohiaaDoorFind
import Derived.Test.YtldknaajnnohiaaDoorTys
section
namespace Go.Proofs.YtldknaajnnohiaaDoor
open Go.RowKit
/-! ### Swaps of two cells, of two ranges; the rotation -/
section
variable {α : Type}
theorem setM_mid {pre post : List α} {x y : α} {k : Nat} (h : pre.length = k) : (pre ++ x :: post).set k y = pre ++ y :: post := by
  subst h; simp
theorem getM_mid {pre post : List α} {x : α} {k : Nat} (h : pre.length = k) : (pre ++ x :: post)[k]? = some x := by
  subst h; simp
/-- What stands when k of n cells have changed places. -/
def swk (pre U M V post : List α) (k : Nat) : List α := pre ++ (V.take k ++ U.drop k) ++ M ++ (U.take k ++ V.drop k) ++ post
theorem swk_zero (pre U M V post : List α) : swk pre U M V post 0 = pre ++ U ++ M ++ V ++ post := by simp [swk]
theorem swk_end (pre U M V post : List α) (h : U.length = V.length) : swk pre U M V post V.length = pre ++ V ++ M ++ U ++ post := by
  unfold swk
  rw [List.take_length, List.drop_of_length_le (by omega), List.take_of_length_le (by omega), List.drop_length]
  simp
variable {pre U M V post : List α} {k : Nat}
theorem swk_form (hu : k < U.length) (hv : k < V.length) : swk pre U M V post k = (pre ++ V.take k) ++ U[k] :: (U.drop (k + 1) ++ M ++ U.take k ++ V[k] :: (V.drop (k + 1) ++ post)) := by
  unfold swk
  rw [List.drop_eq_getElem_cons hu, List.drop_eq_getElem_cons hv]
  simp only [List.append_assoc, List.cons_append, List.nil_append]
theorem swk_form2 (hu : k < U.length) (hv : k < V.length) : swk pre U M V post k = (pre ++ V.take k ++ U[k] :: (U.drop (k + 1) ++ M ++ U.take k)) ++ V[k] :: (V.drop (k + 1) ++ post) := by
  rw [swk_form hu hv]; simp [List.append_assoc]
theorem swk_a (hu : k < U.length) (hv : k < V.length) : (swk pre U M V post k)[pre.length + k]? = some U[k] := by
  rw [swk_form hu hv]
  exact getM_mid (by simp only [List.length_append, List.length_take]; omega)
theorem swk_b (hu : k < U.length) (hv : k < V.length) : (swk pre U M V post k)[pre.length + U.length + M.length + k]? = some V[k] := by
  rw [swk_form2 hu hv]
  exact getM_mid (by simp only [List.length_append, List.length_take, List.length_cons, List.length_drop]; omega)
theorem swk_succ (hu : k < U.length) (hv : k < V.length) : ((swk pre U M V post k).set (pre.length + k) V[k]).set (pre.length + U.length + M.length + k) U[k] = swk pre U M V post (k + 1) := by
  rw [swk_form hu hv, setM_mid (by simp only [List.length_append, List.length_take]; omega)]
  have e : pre ++ V.take k ++ V[k] :: (U.drop (k + 1) ++ M ++ U.take k ++ V[k] :: (V.drop (k + 1) ++ post)) = (pre ++ V.take k ++ V[k] :: (U.drop (k + 1) ++ M ++ U.take k)) ++ V[k] :: (V.drop (k + 1) ++ post) := by simp [List.append_assoc]
  rw [e, setM_mid (by simp only [List.length_append, List.length_take, List.length_cons, List.length_drop]; omega)]
  unfold swk
  rw [List.take_succ_eq_append_getElem hu, List.take_succ_eq_append_getElem hv]
  simp only [List.append_assoc, List.cons_append, List.nil_append]
end

/-! ### Order -/
section
variable {α : Type} (le : α → α → Prop)
structure Pre : Prop where
  total : ∀ x y, le x y ∨ le y x
  trans : ∀ {x y z}, le x y → le y z → le x z
variable {le} (hle : Pre le)
abbrev Srt (le : α → α → Prop) (l : List α) : Prop := l.Pairwise le
theorem srt_append {a b : List α} : Srt le (a ++ b) ↔ Srt le a ∧ Srt le b ∧ ∀ x ∈ a, ∀ y ∈ b, le x y := List.pairwise_append
include hle in
theorem Pre.refl (x : α) : le x x := (hle.total x x).elim id id
/-- Two halves, each put in order, stand in order. -/
theorem halves {L1 L2 R1 R2 Y1 Y2 : List α} (hL : Srt le (L1 ++ L2)) (hR : Srt le (R1 ++ R2)) (h12 : ∀ x ∈ L1, ∀ y ∈ R2, le x y) (h21 : ∀ x ∈ R1, ∀ y ∈ L2, le x y) (p1 : Y1.Perm (L1 ++ R1)) (p2 : Y2.Perm (L2 ++ R2)) (s1 : Srt le Y1) (s2 : Srt le Y2) :
    Srt le (Y1 ++ Y2) ∧ (Y1 ++ Y2).Perm ((L1 ++ L2) ++ (R1 ++ R2)) := by
  constructor
  · refine srt_append.2 ⟨s1, s2, fun x hx y hy => ?_⟩
    have hx' := p1.mem_iff.1 hx
    have hy' := p2.mem_iff.1 hy
    rcases List.mem_append.1 hx' with h | h <;> rcases List.mem_append.1 hy' with k | k
    · exact (srt_append.1 hL).2.2 x h y k
    · exact h12 x h y k
    · exact h21 x h y k
    · exact (srt_append.1 hR).2.2 x h y k
  · refine (p1.append p2).trans ?_
    simp only [List.append_assoc]
    refine List.Perm.append_left L1 ?_
    rw [← List.append_assoc, ← List.append_assoc]
    exact List.Perm.append_right R2 List.perm_append_comm
include hle in
/-- The last of a row in order is behind all; the first is before all. -/
theorem below_last {l : List α} {x : α} (h : Srt le (l ++ [x])) : ∀ y ∈ l ++ [x], le y x := by
  intro y hy
  rcases List.mem_append.1 hy with h1 | h1
  · exact (srt_append.1 h).2.2 y h1 x (by simp)
  · rw [List.mem_singleton.1 h1]; exact hle.refl x
include hle in
theorem srt_get {l : List α} (h : Srt le l) {i j : Nat} (hij : i ≤ j) (hj : j < l.length) : le (l[i]'(by omega)) l[j] := by
  rcases Nat.lt_or_eq_of_le hij with h1 | h1
  · exact List.pairwise_iff_getElem.1 h i j (by omega) hj h1
  · subst h1; exact hle.refl _
include hle in
/-- The cut of symMerge: L and R in order, s of L's and e of R's cells (s + e is given): what the search says at its end makes the two halves. -/
theorem cut_ok {L R : List α} (hL : Srt le L) (hR : Srt le R) {s e : Nat} (hs : s ≤ L.length) (he : e ≤ R.length)
    (h1 : ∀ (h : 0 < s) (h' : e < R.length), le (L[s - 1]'(by omega)) R[e]) (h2 : ∀ (h : s < L.length) (h' : 0 < e), le (R[e - 1]'(by omega)) L[s]) :
    (∀ x ∈ L.take s, ∀ y ∈ R.drop e, le x y) ∧ (∀ x ∈ R.take e, ∀ y ∈ L.drop s, le x y) := by
  constructor
  · intro x hx y hy
    obtain ⟨i, hi, rfl⟩ := List.mem_iff_getElem.1 hx
    obtain ⟨j, hj, rfl⟩ := List.mem_iff_getElem.1 hy
    rw [List.length_take] at hi
    rw [List.length_drop] at hj
    rw [List.getElem_take, List.getElem_drop]
    exact hle.trans (srt_get hle hL (i := i) (j := s - 1) (by omega) (by omega)) (hle.trans (h1 (by omega) (by omega)) (srt_get hle hR (i := e) (j := e + j) (by omega) (by omega)))
  · intro x hx y hy
    obtain ⟨i, hi, rfl⟩ := List.mem_iff_getElem.1 hx
    obtain ⟨j, hj, rfl⟩ := List.mem_iff_getElem.1 hy
    rw [List.length_take] at hi
    rw [List.length_drop] at hj
    rw [List.getElem_take, List.getElem_drop]
    exact hle.trans (srt_get hle hR (i := i) (j := e - 1) (by omega) (by omega)) (hle.trans (h2 (by omega) (by omega)) (srt_get hle hL (i := s) (j := s + j) (by omega) (by omega)))
/-- One cell put into a row in order. -/
theorem insert_ok {A B : List α} {x : α} (h : Srt le (A ++ B)) (h1 : ∀ y ∈ A, le y x) (h2 : ∀ y ∈ B, le x y) : Srt le (A ++ x :: B) := by
  have h3 := srt_append.1 h
  refine srt_append.2 ⟨h3.1, List.pairwise_cons.2 ⟨h2, h3.2.1⟩, fun y hy z hz => ?_⟩
  rcases List.mem_cons.1 hz with rfl | hz
  · exact h1 y hy
  · exact h3.2.2 y hy z hz
end

theorem results_none {fn : Func} (h : fn.results = #[]) (tmps : Array Value) (P : Program) (w : World) : (results fn tmps).run P w = .ok (.tuple #[]) w := by
  simp [results, h]

/-! ### Ranges that change places -/
set_option maxHeartbeats 4000000 in
set_option maxRecDepth 8000 in
theorem swapRange_w {w0 w : World} {Γ : List Fact} (g off N c : Nat) (cv : Value) (pre U M V post : List Int) (a b n : Nat) (hN : (pre ++ U ++ M ++ V ++ post).length = N) (hN2 : N ≤ 1000000000) (hUV : U.length = V.length) (ha : pre.length = a) (hb : pre.length + U.length + M.length = b) (hn : V.length = n)
    (hS : Sat w0 w (.own Rep.int.rows [.slice (some ⟨g, off, none⟩) N c] (pre ++ U ++ M ++ V ++ post) :: Γ)) :
    Calls Tryd.prog 210 #[.slice (some ⟨g, off, none⟩) N c, .int .i64 (a : Int), .int .i64 (b : Int), .int .i64 (n : Int), cv] w fun e w' => e = .returned (.tuple #[]) ∧ Sat w0 w' (.own Rep.int.rows [.slice (some ⟨g, off, none⟩) N c] (pre ++ V ++ M ++ U ++ post) :: Γ) := by
  have hbN : b + n ≤ N := by
    rw [← hN]; simp only [List.length_append]; omega
  have haN : a + n ≤ b := by omega
  rw [← swk_zero] at hS
  have HE := Lib.hid (swk_end pre U M V post hUV)
  rw [hn] at HE
  go_enter Tryd.func210, Tryd.ntmps210
  go_wp2_with (first | ((with_reducible show wpList _ _ _ (⟨_, Op.load _ _, _, _, _, _⟩ :: _) _ _); (first | refine Gives.list (f_load hS rfl rfl (by rfl)) rfl ?_ | refine Gives.list (f_loadS hS rfl rfl (by rfl)) rfl ?_ | refine Gives.list (f_loadAt hS rfl rfl) rfl ?_ | refine Gives.list (f_loadAtS hS rfl rfl (by rfl)) rfl ?_ | refine Gives.list (f_loadAtF hS rfl rfl (by rfl)) rfl ?_); (simp only [Act.put, sA, sZ, sS])))
  go_loopw [10] (fun i wr => ∃ k : Nat, i = .int .i64 k ∧ k ≤ n ∧ Sat w0 wr (.own Rep.int.rows [.slice (some ⟨g, off, none⟩) N c] (swk pre U M V post k) :: Γ)) (fun i _ => n - (intOf i).toNat)
  case atStart => exact ⟨0, rfl, Nat.zero_le _, hS⟩
  case round =>
    clear hS
    obtain ⟨k, rfl, hk, hS⟩ := hrel
    by_cases hlt : k < n
    · have hltI : (k : Int) < (n : Int) := by omega
      have hu : k < U.length := by omega
      have hv : k < V.length := by omega
      have Ha := swk_a (pre := pre) (M := M) (post := post) hu hv
      have Hb := swk_b (pre := pre) (M := M) (post := post) hu hv
      have Hs := swk_succ (pre := pre) (M := M) (post := post) hu hv
      rw [hb] at Hb Hs
      rw [ha] at Ha Hs
      obtain ⟨ia, hia0⟩ : ∃ x, a + k = x := ⟨_, rfl⟩
      obtain ⟨ib, hib0⟩ : ∃ x, b + k = x := ⟨_, rfl⟩
      have hwa : IntKind.i64.wrap ((a : Int) + (k : Int)) = (ia : Int) := by rw [IntWalk.i64_in _ (by omega)]; omega
      have hwb : IntKind.i64.wrap ((b : Int) + (k : Int)) = (ib : Int) := by rw [IntWalk.i64_in _ (by omega)]; omega
      have hia : ia < N := by omega
      have hib : ib < N := by omega
      have hiaI : (ia : Int) < (N : Int) := by omega
      have hibI : (ib : Int) < (N : Int) := by omega
      rw [hia0] at Ha Hs
      rw [hib0] at Hb Hs
      obtain ⟨x, hx⟩ : ∃ x, U[k] = x := ⟨_, rfl⟩
      obtain ⟨y, hy⟩ : ∃ y, V[k] = y := ⟨_, rfl⟩
      obtain ⟨Y, hY⟩ : ∃ Y, swk pre U M V post k = Y := ⟨_, rfl⟩
      rw [hx, hY] at Ha
      rw [hy, hY] at Hb
      rw [hx, hy, hY] at Hs
      rw [hY] at hS
      obtain ⟨⟨_, _, _, _, _, Ix⟩, _⟩ := hS.rowCell (e := Rep.int) 0 rfl rfl Ha
      obtain ⟨⟨_, _, _, _, _, Iy⟩, _⟩ := hS.rowCell (e := Rep.int) 0 rfl rfl Hb
      have Ix := Lib.hid Ix
      have Iy := Lib.hid Iy
      have Ha := Lib.hid Ha
      have Hb := Lib.hid Hb
      have Hs := Lib.hid Hs
      clear hx hy hY hia0 hib0 hu hv
      go_wp2_with (first | ((with_reducible show Code.wp _ (Code.region 3 _ true) _ _ _); refine wp_region_drawn [(0, 0), (1, 0), (2, 0), (3, 0), (4, 0), (5, 0), (6, 0), (7, 0), (8, 0), (9, 0), (10, 0), (11, 0), (12, 0), (13, 1), (14, 0), (15, 0), (16, 0), (17, 0), (18, 0), (19, 1), (20, 0), (21, 3), (22, 0), (23, 3)] (by kernel_rfl) (by kernel_rfl) (by intro _ _ dq _ _ hq; cases dq <;> exact hq) ?_; replace hS := hS.mod (Mod.drew (Mod.refl _ _)); (generalize hwd : World.drew _ = wz at hS ⊢); clear hwd) | ((with_reducible show wpD _ _ _ ((_, 1) :: _) _ _); (first | refine D_load rfl rfl (fun x hx => f_loadRow (g := g) (off := off) (k := ia) (n := N) (c := c) (hS.mod hx) rfl rfl Ha.out) ?_ | refine D_load rfl rfl (fun x hx => f_loadRow (g := g) (off := off) (k := ib) (n := N) (c := c) (hS.mod hx) rfl rfl Hb.out) ?_); (first | show wpD _ _ _ _ (Act.put _ (some _) _) _ | show wpD _ _ _ _ (Act.put _ none _) _); (simp only [Act.put, sA, sZ, sS])) | ((with_reducible show wpD _ _ _ ((_, 3) :: _) _ _); (first | refine D_loud rfl rfl (does_storeEl (e := Rep.int) (k := ia) 0 (hS.int Iy.out) rfl rfl rfl rfl rfl rfl hia) ?_ | refine D_loud rfl rfl (does_storeEl (e := Rep.int) (k := ib) 0 (hS.int Ix.out) rfl rfl rfl rfl rfl rfl hib) ?_); clear hS; rintro _ wx ⟨rfl, hS⟩; (simp only [sZ, sS] at hS); (first | show wpD _ _ _ _ (Act.put _ (some _) _) _ | show wpD _ _ _ _ (Act.put _ none _) _); (simp only [Act.put, sA, sZ, sS])) | ((with_reducible show wpD _ _ _ [] _ _); refine D_nil ?_) | ((with_reducible show wpD _ _ _ ((_, 0) :: _) _ _); (first | (refine D_skip rfl rfl ?_; (first | show wpD _ _ _ _ (Act.put _ (some _) _) _ | show wpD _ _ _ _ (Act.put _ none _) _); (simp only [Act.put, sA, sZ, sS])) | (refine D_pure (v := ?_) rfl rfl (fun wq => ?_) ?_; rotate_left 1; (show (Sem.run _ (execOp _ (Oper.mk _ _ _ _ _ _)) _) = _; go_simp; (try go_bits); with_reducible rfl); (first | show wpD _ _ _ _ (Act.put _ (some _) _) _ | show wpD _ _ _ _ (Act.put _ none _) _); (simp only [Act.put, sA, sZ, sS])))))
      go_roundw
      case rel => exact ⟨k + 1, by go_num, hlt, by rw [← Hs.out]; exact hS⟩
      case measure => simp [intOf]; omega
    · obtain rfl : k = n := by omega
      rw [HE.out] at hS
      go_wp2_with (first | ((with_reducible show wpList _ _ _ (⟨_, Op.load _ _, _, _, _, _⟩ :: _) _ _); (first | refine Gives.list (f_load hS rfl rfl (by rfl)) rfl ?_ | refine Gives.list (f_loadS hS rfl rfl (by rfl)) rfl ?_ | refine Gives.list (f_loadAt hS rfl rfl) rfl ?_ | refine Gives.list (f_loadAtS hS rfl rfl (by rfl)) rfl ?_ | refine Gives.list (f_loadAtF hS rfl rfl (by rfl)) rfl ?_); (simp only [Act.put, sA, sZ, sS])))
      (try simp only [Exit.inBlock, Exit.then]); (first | refine bodyPost_ret (results_none rfl _ _ _) rfl ?_ | refine bodyPost_end (results_none rfl _ _ _) rfl ?_)
      exact ⟨rfl, hS⟩

end Go.Proofs.YtldknaajnnohiaaDoor
end

section
namespace Go.Proofs.YtldknaajnnohiaaDoor
open Go.RowKit

/-! ### The rotation -/
set_option maxHeartbeats 4000000 in
set_option maxRecDepth 8000 in
theorem rotate_w {w0 w : World} {Γ : List Fact} (g off N c : Nat) (cv : Value) (pre A B post : List Int) (a m b : Nat) (hN : (pre ++ A ++ B ++ post).length = N) (hN2 : N ≤ 1000000000) (ha : pre.length = a) (hm : pre.length + A.length = m) (hb : pre.length + A.length + B.length = b) (hA : 1 ≤ A.length) (hB : 1 ≤ B.length)
    (hS : Sat w0 w (.own Rep.int.rows [.slice (some ⟨g, off, none⟩) N c] (pre ++ A ++ B ++ post) :: Γ)) :
    Calls Tryd.prog 208 #[.slice (some ⟨g, off, none⟩) N c, .int .i64 (a : Int), .int .i64 (m : Int), .int .i64 (b : Int), cv] w fun e w' => e = .returned (.tuple #[]) ∧ Sat w0 w' (.own Rep.int.rows [.slice (some ⟨g, off, none⟩) N c] (pre ++ B ++ A ++ post) :: Γ) := by
  have hNb : b ≤ N := by rw [← hN]; simp only [List.length_append]; omega
  have hw1 : IntKind.i64.wrap ((m : Int) - (a : Int)) = ((A.length : Nat) : Int) := by rw [IntWalk.i64_in _ (by omega)]; omega
  have hw2 : IntKind.i64.wrap ((b : Int) - (m : Int)) = ((B.length : Nat) : Int) := by rw [IntWalk.i64_in _ (by omega)]; omega
  have HN := Lib.hid hN
  clear hN
  go_enter Tryd.func208, Tryd.ntmps208
  go_wp2_with (first | ((with_reducible show wpList _ _ _ (⟨_, Op.load _ _, _, _, _, _⟩ :: _) _ _); (first | refine Gives.list (f_load hS rfl rfl (by rfl)) rfl ?_ | refine Gives.list (f_loadS hS rfl rfl (by rfl)) rfl ?_ | refine Gives.list (f_loadAt hS rfl rfl) rfl ?_ | refine Gives.list (f_loadAtS hS rfl rfl (by rfl)) rfl ?_ | refine Gives.list (f_loadAtF hS rfl rfl (by rfl)) rfl ?_); (simp only [Act.put, sA, sZ, sS])))
  go_loopw [10, 11] (fun i j wr => ∃ (P A' B' S : List Int), i = .int .i64 (A'.length : Nat) ∧ j = .int .i64 (B'.length : Nat) ∧ 1 ≤ A'.length ∧ 1 ≤ B'.length ∧ pre.length + P.length + A'.length = m ∧ A'.length + B'.length ≤ A.length + B.length ∧ Hid (P ++ (B' ++ A') ++ S = B ++ A) ∧ Sat w0 wr (.own Rep.int.rows [.slice (some ⟨g, off, none⟩) N c] (pre ++ P ++ A' ++ B' ++ (S ++ post)) :: Γ)) (fun i j _ => (intOf i).toNat + (intOf j).toNat)
  case atStart => exact ⟨[], A, B, [], rfl, rfl, hA, hB, by simpa using hm, Nat.le_refl _, Lib.hid (by simp), by simpa using hS⟩
  case round =>
    clear hS hw1 hw2
    obtain ⟨P, A', B', S, rfl, rfl, hA', hB', hm', hle, hEq, hS⟩ := hrel
    have hlen : (pre ++ P ++ A' ++ B' ++ (S ++ post)).length = N := by
      have h1 := congrArg List.length hEq.out
      have h2 := HN.out
      simp only [List.length_append] at h1 h2 ⊢
      omega
    obtain ⟨i, hi⟩ : ∃ i, A'.length = i := ⟨_, rfl⟩
    obtain ⟨j, hj⟩ : ∃ j, B'.length = j := ⟨_, rfl⟩
    rw [hi] at hA' hm' hle
    rw [hj] at hB' hle
    have hiN : i + j ≤ N := by rw [← hlen]; simp only [List.length_append]; omega
    have hmN : m + j ≤ N := by rw [← hlen]; simp only [List.length_append]; omega
    have him : i ≤ m := by omega
    have hpm : (pre ++ P).length = m - i := by rw [List.length_append]; omega
    have hw1 : IntKind.i64.wrap ((m : Int) - (i : Int)) = ((m - i : Nat) : Int) := by rw [IntWalk.i64_in _ (by omega)]; omega
    have Hlen := Lib.hid hlen
    have Hpm := Lib.hid hpm
    clear hlen hpm
    obtain ⟨q1, hq1⟩ : ∃ x, m - i = x := ⟨_, rfl⟩
    obtain ⟨mj, hmj⟩ : ∃ x, m + j = x := ⟨_, rfl⟩
    rw [hq1] at hw1 Hpm
    rcases Nat.lt_trichotomy i j with hij | hij | hij
    · have hB12 : B'.take (j - i) ++ B'.drop (j - i) = B' := List.take_append_drop _ _
      obtain ⟨B1, hB1⟩ : ∃ x, B'.take (j - i) = x := ⟨_, rfl⟩
      obtain ⟨B2, hB2⟩ : ∃ x, B'.drop (j - i) = x := ⟨_, rfl⟩
      have hl1 : B1.length = j - i := by rw [← hB1, List.length_take]; omega
      have hl2 : B2.length = i := by rw [← hB2, List.length_drop]; omega
      rw [hB1, hB2] at hB12
      clear hB1 hB2
      subst hB12
      have e1 : pre ++ P ++ A' ++ (B1 ++ B2) ++ (S ++ post) = (pre ++ P) ++ A' ++ B1 ++ B2 ++ (S ++ post) := by simp only [List.append_assoc]
      have e2 : (pre ++ P) ++ B2 ++ B1 ++ A' ++ (S ++ post) = pre ++ P ++ B2 ++ B1 ++ ((A' ++ S) ++ post) := by simp only [List.append_assoc]
      have HL2 := Lib.hid (e1 ▸ Hlen.out)
      have E2 := Lib.hid e2
      rw [e1] at hS
      have E3 : Hid (P ++ (B1 ++ B2) ++ (A' ++ S) = B ++ A) := Lib.hid (by rw [← hEq.out]; simp only [List.append_assoc])
      obtain ⟨q2, hq2⟩ : ∃ x, mj - i = x := ⟨_, rfl⟩
      obtain ⟨q3, hq3⟩ : ∃ x, j - i = x := ⟨_, rfl⟩
      rw [hq3] at hl1
      have hw2 : IntKind.i64.wrap ((m : Int) + (j : Int)) = (mj : Int) := by rw [IntWalk.i64_in _ (by omega)]; omega
      have hw3 : IntKind.i64.wrap ((mj : Int) - (i : Int)) = (q2 : Int) := by rw [IntWalk.i64_in _ (by omega)]; omega
      have hw4 : IntKind.i64.wrap ((j : Int) - (i : Int)) = (q3 : Int) := by rw [IntWalk.i64_in _ (by omega)]; omega
      have hne : ((i : Int) != (j : Int)) = true := by rw [bne_iff_ne]; omega
      have hgt : decide ((j : Int) < (i : Int)) = false := by simp; omega
      have hgtI : ¬ (j : Int) < (i : Int) := by omega
      have Hi := Lib.hid hi
      have Hl1 := Lib.hid hl1
      have Hl2 := Lib.hid hl2
      rw [hi, hj]
      clear hi hj hl1 hl2 e1 e2 hEq Hlen
      go_wp2_with (first | (go_at_call 210; (with_reducible show Calls _ _ #[_, Value.int IntKind.i64 (q1 : Int), Value.int IntKind.i64 (q2 : Int), Value.int IntKind.i64 (i : Int), _] _ _); refine (swapRange_w g off N c cv (pre ++ P) A' B1 B2 (S ++ post) q1 q2 i HL2.out hN2 (by rw [Hi.out, Hl2.out]) Hpm.out (by rw [Hpm.out, Hi.out, Hl1.out]; omega) Hl2.out hS).mono ?_; clear hS; rintro e w' ⟨rfl, hS⟩))
      go_roundw
      case rel => exact ⟨P, B2, B1, A' ++ S, by rw [Hl2.out], by rw [Hl1.out], by rw [Hl2.out]; omega, by rw [Hl1.out]; omega, by rw [Hl2.out]; omega, by rw [Hl2.out, Hl1.out]; omega, E3, by rw [← E2.out]; exact hS⟩
      case measure => simp [intOf]; omega
    · subst hij
      have e1 : pre ++ P ++ A' ++ B' ++ (S ++ post) = (pre ++ P) ++ A' ++ [] ++ B' ++ (S ++ post) := by simp only [List.append_assoc, List.nil_append]
      have HL2 := Lib.hid (e1 ▸ Hlen.out)
      rw [e1] at hS
      have E2 : Hid ((pre ++ P) ++ B' ++ [] ++ A' ++ (S ++ post) = pre ++ B ++ A ++ post) := Lib.hid (by
        have h := hEq.out
        have : pre ++ B ++ A ++ post = pre ++ (B ++ A) ++ post := by simp only [List.append_assoc]
        rw [this, ← h]; simp only [List.append_assoc, List.nil_append])
      have hne : ((i : Int) != (i : Int)) = false := by simp
      have Hi := Lib.hid hi
      have Hj := Lib.hid hj
      rw [hi, hj]
      clear hi hj e1 hEq Hlen
      go_wp2_with (first | (go_at_call 210; (with_reducible show Calls _ _ #[_, Value.int IntKind.i64 (q1 : Int), Value.int IntKind.i64 (m : Int), Value.int IntKind.i64 (i : Int), _] _ _); refine (swapRange_w g off N c cv (pre ++ P) A' [] B' (S ++ post) q1 m i HL2.out hN2 (by rw [Hi.out, Hj.out]) Hpm.out (by rw [Hpm.out, Hi.out]; simp; omega) Hj.out hS).mono ?_; clear hS; rintro e w' ⟨rfl, hS⟩))
      (try simp only [Exit.inBlock, Exit.then]); (first | refine bodyPost_ret (results_none rfl _ _ _) rfl ?_ | refine bodyPost_end (results_none rfl _ _ _) rfl ?_)
      rw [E2.out] at hS
      exact ⟨rfl, hS⟩
    · have hA12 : A'.take j ++ A'.drop j = A' := List.take_append_drop _ _
      obtain ⟨A1, hA1⟩ : ∃ x, A'.take j = x := ⟨_, rfl⟩
      obtain ⟨A2, hA2⟩ : ∃ x, A'.drop j = x := ⟨_, rfl⟩
      have hl1 : A1.length = j := by rw [← hA1, List.length_take]; omega
      have hl2 : A2.length = i - j := by rw [← hA2, List.length_drop]; omega
      rw [hA1, hA2] at hA12
      clear hA1 hA2
      subst hA12
      have e1 : pre ++ P ++ (A1 ++ A2) ++ B' ++ (S ++ post) = (pre ++ P) ++ A1 ++ A2 ++ B' ++ (S ++ post) := by simp only [List.append_assoc]
      have e2 : (pre ++ P) ++ B' ++ A2 ++ A1 ++ (S ++ post) = pre ++ (P ++ B') ++ A2 ++ A1 ++ (S ++ post) := by simp only [List.append_assoc]
      have HL2 := Lib.hid (e1 ▸ Hlen.out)
      have E2 := Lib.hid e2
      rw [e1] at hS
      have E3 : Hid ((P ++ B') ++ (A1 ++ A2) ++ S = B ++ A) := Lib.hid (by rw [← hEq.out]; simp only [List.append_assoc])
      obtain ⟨q3, hq3⟩ : ∃ x, i - j = x := ⟨_, rfl⟩
      rw [hq3] at hl2
      have hw4 : IntKind.i64.wrap ((i : Int) - (j : Int)) = (q3 : Int) := by rw [IntWalk.i64_in _ (by omega)]; omega
      have hne : ((i : Int) != (j : Int)) = true := by rw [bne_iff_ne]; omega
      have hgtI : (j : Int) < (i : Int) := by omega
      have Hj := Lib.hid hj
      have Hl1 := Lib.hid hl1
      have Hl2 := Lib.hid hl2
      rw [hi, hj]
      clear hi hj hl1 hl2 e1 e2 hEq Hlen
      go_wp2_with (first | (go_at_call 210; (with_reducible show Calls _ _ #[_, Value.int IntKind.i64 (q1 : Int), Value.int IntKind.i64 (m : Int), Value.int IntKind.i64 (j : Int), _] _ _); refine (swapRange_w g off N c cv (pre ++ P) A1 A2 B' (S ++ post) q1 m j HL2.out hN2 (by rw [Hl1.out, Hj.out]) Hpm.out (by rw [Hpm.out, Hl1.out, Hl2.out]; omega) Hj.out hS).mono ?_; clear hS; rintro e w' ⟨rfl, hS⟩))
      go_roundw
      case rel => exact ⟨P ++ B', A2, A1, S, by rw [Hl2.out], by rw [Hl1.out], by rw [Hl2.out]; omega, by rw [Hl1.out]; omega, by rw [List.length_append, Hj.out, Hl2.out]; omega, by rw [Hl2.out, Hl1.out]; omega, E3, by rw [← E2.out]; exact hS⟩
      case measure => simp [intOf]; omega
end Go.Proofs.YtldknaajnnohiaaDoor
end

section
namespace Go.Proofs.YtldknaajnnohiaaDoor
open Go.RowKit

/-- The comparison that the sort is handed: what it answers while the facts hold. -/
def CmpOk (w0 : World) (Γ : List Fact) (g off N c bp bc : Nat) (D : Int → Prop) (lt : Int → Int → Bool) : Prop :=
  ∀ (wz : World) (xs : List Int), Sat w0 wz (.own Rep.int.rows [.slice (some ⟨g, off, none⟩) N c] xs :: Γ) → ∀ x y, D x → D y →
    Calls Tryd.prog 164 #[.int .i64 x, .int .i64 y, .pointer (some ⟨bp, 0, none⟩), .pointer (some ⟨bc, 0, none⟩)] wz fun e w' => (∃ r : Int, e = .returned (.int .i64 r) ∧ decide (r < 0) = lt x y) ∧ Mod [] wz w'
def leOf (lt : Int → Int → Bool) (x y : Int) : Prop := lt y x = false
section
variable {lt : Int → Int → Bool}
theorem swap_mid {pre P Q post : List Int} {p x : Int} {k : Nat} (h : (pre ++ P).length = k) : ((pre ++ P ++ p :: x :: Q ++ post).set (k + 1) p).set k x = pre ++ P ++ x :: p :: Q ++ post := by
  have e1 : pre ++ P ++ p :: x :: Q ++ post = (pre ++ P ++ [p]) ++ x :: (Q ++ post) := by simp only [List.append_assoc, List.cons_append, List.nil_append]
  rw [e1, setM_mid (by simp only [List.length_append, List.length_cons, List.length_nil] at h ⊢; omega)]
  have e2 : pre ++ P ++ [p] ++ p :: (Q ++ post) = (pre ++ P) ++ p :: (p :: (Q ++ post)) := by simp only [List.append_assoc, List.cons_append, List.nil_append]
  rw [e2, setM_mid h]
  simp only [List.append_assoc, List.cons_append]
end
set_option maxHeartbeats 8000000 in
set_option maxRecDepth 8000 in
theorem insertion_w {w0 w : World} {Γ : List Fact} (g off N c bp bc : Nat) (D : Int → Prop) (lt : Int → Int → Bool) (hpre : Pre (leOf lt)) (hcmp : CmpOk w0 Γ g off N c bp bc D lt) (pre X post : List Int) (a b : Nat) (hN : (pre ++ X ++ post).length = N) (hN2 : N ≤ 1000000000) (ha : pre.length = a) (hb : pre.length + X.length = b) (hD : ∀ z ∈ X, D z)
    (hS : Sat w0 w (.own Rep.int.rows [.slice (some ⟨g, off, none⟩) N c] (pre ++ X ++ post) :: Γ)) :
    Calls Tryd.prog 200 #[.slice (some ⟨g, off, none⟩) N c, .int .i64 (a : Int), .int .i64 (b : Int), .func (.func 164) #[] #[.pointer (some ⟨bp, 0, none⟩), .pointer (some ⟨bc, 0, none⟩)]] w fun e w' => e = .returned (.tuple #[]) ∧ ∃ Y, Y.Perm X ∧ Srt (leOf lt) Y ∧ Sat w0 w' (.own Rep.int.rows [.slice (some ⟨g, off, none⟩) N c] (pre ++ Y ++ post) :: Γ) := by
  have hbN : b ≤ N := by rw [← hN]; simp only [List.length_append]; omega
  obtain ⟨a1, ha1⟩ : ∃ x, a + 1 = x := ⟨_, rfl⟩
  have hw1 : IntKind.i64.wrap ((a : Int) + 1) = (a1 : Int) := by rw [IntWalk.i64_in _ (by omega)]; omega
  have HN := Lib.hid hN
  have HD := Lib.hid hD
  have Hb := Lib.hid hb
  clear hN hD hb
  go_enter Tryd.func200, Tryd.ntmps200
  go_wp2_with (first | ((with_reducible show wpList _ _ _ (⟨_, Op.load _ _, _, _, _, _⟩ :: _) _ _); (first | refine Gives.list (f_load hS rfl rfl (by rfl)) rfl ?_ | refine Gives.list (f_loadS hS rfl rfl (by rfl)) rfl ?_ | refine Gives.list (f_loadAt hS rfl rfl) rfl ?_ | refine Gives.list (f_loadAtS hS rfl rfl (by rfl)) rfl ?_ | refine Gives.list (f_loadAtF hS rfl rfl (by rfl)) rfl ?_); (simp only [Act.put, sA, sZ, sS])))
  go_loopw [8] (fun iv wr => ∃ (k i : Nat) (Y : List Int), iv = .int .i64 (i : Int) ∧ i = a + k ∧ 1 ≤ k ∧ k ≤ X.length + 1 ∧ Hid (Y.Perm (X.take k)) ∧ Hid (Srt (leOf lt) Y) ∧ Sat w0 wr (.own Rep.int.rows [.slice (some ⟨g, off, none⟩) N c] (pre ++ Y ++ (X.drop k ++ post)) :: Γ)) (fun iv _ => b + 1 - (intOf iv).toNat)
  case atStart =>
    refine ⟨1, a1, X.take 1, rfl, ha1.symm, Nat.le_refl _, by omega, Lib.hid (List.Perm.refl _), Lib.hid ?_, ?_⟩
    · cases X with
      | nil => exact List.Pairwise.nil
      | cons x X => exact List.pairwise_singleton _ _
    · have e : pre ++ X.take 1 ++ (X.drop 1 ++ post) = pre ++ X ++ post := by
        rw [← List.append_assoc, List.append_assoc pre, List.take_append_drop]
      rw [e]; exact hS
  case round =>
    clear hS hw1
    obtain ⟨k, i, Y, rfl, hi, hk1, hk2, hY, hs, hS⟩ := hrel
    obtain ⟨i2, hi2⟩ : ∃ x, i + 1 = x := ⟨_, rfl⟩
    have hikX : k ≤ X.length + 1 ∧ pre.length + X.length = b := ⟨hk2, Hb.out⟩
    have hw1 : IntKind.i64.wrap ((i : Int) + 1) = (i2 : Int) := by rw [IntWalk.i64_in _ (by omega)]; omega
    by_cases hlt : k < X.length
    · have hab : i < b := by have := Hb.out; omega
      have hltI : (i : Int) < (b : Int) := by omega
      have hYl : Y.length = k := by rw [hY.out.length_eq, List.length_take]; omega
      have hx : X.drop k = X[k] :: X.drop (k + 1) := List.drop_eq_getElem_cons hlt
      have hXk := List.getElem_mem hlt
      obtain ⟨x, hxx⟩ : ∃ x, X[k] = x := ⟨_, rfl⟩
      obtain ⟨Z, hZ⟩ : ∃ Z, X.drop (k + 1) = Z := ⟨_, rfl⟩
      have HP : Hid ((Y ++ [x]).Perm (X.take (k + 1))) := Lib.hid (by rw [List.take_succ_eq_append_getElem hlt, hxx]; exact hY.out.append_right _)
      rw [hxx, hZ] at hx
      rw [hxx] at hXk
      rw [hx] at hS
      have Dx := Lib.hid (HD.out x hXk)
      have HYD : Hid (∀ z ∈ Y, D z) := Lib.hid (fun z hz => HD.out z (List.mem_of_mem_take (hY.out.mem_iff.1 hz)))
      have HZ := Lib.hid hZ
      have HlN : Hid ((pre ++ Y ++ (x :: Z ++ post)).length = N) := Lib.hid (by
        have h1 := HN.out
        rw [← hx]
        simp only [List.length_append, List.length_drop] at h1 ⊢
        omega)
      have e0 : pre ++ Y ++ (x :: Z ++ post) = pre ++ Y ++ x :: [] ++ (Z ++ post) := by simp only [List.append_assoc, List.cons_append, List.nil_append]
      rw [e0] at hS HlN
      have Hi := Lib.hid hi
      clear hx hxx hZ hXk e0 hi
      go_wp2_with (first | ((with_reducible show wpList _ _ _ (⟨_, Op.load _ _, _, _, _, _⟩ :: _) _ _); (first | refine Gives.list (f_load hS rfl rfl (by rfl)) rfl ?_ | refine Gives.list (f_loadS hS rfl rfl (by rfl)) rfl ?_ | refine Gives.list (f_loadAt hS rfl rfl) rfl ?_ | refine Gives.list (f_loadAtS hS rfl rfl (by rfl)) rfl ?_ | refine Gives.list (f_loadAtF hS rfl rfl (by rfl)) rfl ?_); (simp only [Act.put, sA, sZ, sS])))
      go_loopw [9] (fun jv wr => ∃ (P Q : List Int) (j : Nat), jv = .int .i64 (j : Int) ∧ j = a + P.length ∧ Hid (P ++ Q = Y) ∧ Hid (∀ y ∈ Q, leOf lt x y) ∧ P.length ≤ k ∧ Sat w0 wr (.own Rep.int.rows [.slice (some ⟨g, off, none⟩) N c] (pre ++ P ++ x :: Q ++ (Z ++ post)) :: Γ)) (fun jv _ => (intOf jv).toNat)
      case atStart => exact ⟨Y, [], i, rfl, by rw [hYl]; exact Hi.out, Lib.hid (by simp), Lib.hid (by simp), by omega, hS⟩
      case round =>
        clear hS
        obtain ⟨P, Q, j, rfl, hj, hPQ, hQ, hPl, hS⟩ := hrel
        have HLN2 : Hid ((pre ++ P ++ x :: Q ++ (Z ++ post)).length = N) := Lib.hid (by
          have h1 := HlN.out
          have h2 := congrArg List.length hPQ.out
          simp only [List.length_append, List.length_cons, List.length_nil] at h1 h2 ⊢
          omega)
        have done : (∀ y ∈ P, leOf lt y x) → Srt (leOf lt) (P ++ x :: Q) ∧ (P ++ x :: Q).Perm (X.take (k + 1)) := fun hP => by
          refine ⟨insert_ok (by rw [hPQ.out]; exact hs.out) hP hQ.out, List.Perm.trans ?_ HP.out⟩
          rw [← hPQ.out]
          simp only [List.append_assoc]
          exact List.Perm.append_left P (List.perm_append_comm (l₁ := [x]))
        have Done := Lib.hid done
        clear done
        rcases List.eq_nil_or_concat P with rfl | ⟨P', p, rfl⟩
        · have hgt : decide (a < j) = false := by simp only [List.length_nil] at hj; simp; omega
          have HF := Lib.hid (Done.out (by simp))
          clear hj
          go_wp2_with (first | ((with_reducible show Code.wp _ (Code.region 4 _ true) _ _ _); refine wp_region_drawn [(0, 0), (1, 0), (2, 0), (3, 0), (4, 0), (5, 0), (6, 0), (7, 0), (8, 1), (9, 0), (10, 0), (11, 0), (12, 0), (13, 1), (14, 2), (15, 0), (16, 0)] (by kernel_rfl) (by kernel_rfl) (by intro _ _ dq _ _ hq; cases dq <;> exact hq) ?_; replace hS := hS.mod (Mod.drew (Mod.refl _ _)); (generalize hwd : World.drew _ = wz at hS ⊢); clear hwd) | ((with_reducible show wpD _ _ _ [] _ _); refine D_nil ?_) | ((with_reducible show wpD _ _ _ ((_, 0) :: _) _ _); (first | (refine D_skip rfl rfl ?_; (first | show wpD _ _ _ _ (Act.put _ (some _) _) _ | show wpD _ _ _ _ (Act.put _ none _) _); (simp only [Act.put, sA, sZ, sS])) | (refine D_pure (v := ?_) rfl rfl (fun wq => ?_) ?_; rotate_left 1; (show (Sem.run _ (execOp _ (Oper.mk _ _ _ _ _ _)) _) = _; go_simp; (try go_bits); with_reducible rfl); (first | show wpD _ _ _ _ (Act.put _ (some _) _) _ | show wpD _ _ _ _ (Act.put _ none _) _); (simp only [Act.put, sA, sZ, sS])))) | ((with_reducible show wpD _ _ _ ((_, 1) :: _) _ _); (first | (refine D_skip rfl rfl ?_; (first | show wpD _ _ _ _ (Act.put _ (some _) _) _ | show wpD _ _ _ _ (Act.put _ none _) _); (simp only [Act.put, sA, sZ, sS])) | ((first | refine D_load rfl rfl (fun x hx => f_load (hS.mod hx) rfl rfl (by rfl)) ?_ | refine D_load rfl rfl (fun x hx => f_loadS (hS.mod hx) rfl rfl (by rfl)) ?_ | refine D_load rfl rfl (fun x hx => f_loadAt (hS.mod hx) rfl rfl) ?_ | refine D_load rfl rfl (fun x hx => f_loadAtS (hS.mod hx) rfl rfl (by rfl)) ?_ | refine D_load rfl rfl (fun x hx => f_loadAtF (hS.mod hx) rfl rfl (by rfl)) ?_); (first | show wpD _ _ _ _ (Act.put _ (some _) _) _ | show wpD _ _ _ _ (Act.put _ none _) _); (simp only [Act.put, sA, sZ, sS])))) | ((with_reducible show wpD _ _ _ ((_, 2) :: _) _ _); (refine D_skip rfl rfl ?_; (first | show wpD _ _ _ _ (Act.put _ (some _) _) _ | show wpD _ _ _ _ (Act.put _ none _) _); (simp only [Act.put, sA, sZ, sS]))))
          go_roundw
          case rel => exact ⟨k + 1, i2, x :: Q, rfl, by have := Hi.out; omega, by omega, by omega, Lib.hid HF.out.2, Lib.hid HF.out.1, by rw [HZ.out]; simpa only [List.append_nil] using hS⟩
          case measure => simp [intOf]; omega
        · simp only [List.concat_eq_append] at hS hPl HLN2 Done hPQ hj ⊢
          have hl1 : (P' ++ [p]).length = P'.length + 1 := by simp
          obtain ⟨q, hq⟩ : ∃ q, P'.length = q := ⟨_, rfl⟩
          rw [hl1, hq] at hPl hj
          have e1 : pre ++ (P' ++ [p]) ++ x :: Q ++ (Z ++ post) = pre ++ P' ++ p :: x :: Q ++ (Z ++ post) := by simp only [List.append_assoc, List.cons_append, List.nil_append]
          rw [e1] at hS HLN2
          obtain ⟨ia, rfl⟩ : ∃ i, i = j := ⟨_, rfl⟩
          have hia0 : a + (q + 1) = ia := hj.symm
          clear hj
          obtain ⟨ib, hib0⟩ : ∃ i, a + q = i := ⟨_, rfl⟩
          have hpl : (pre ++ P').length = ib := by rw [List.length_append]; omega
          have Ha : Hid ((pre ++ P' ++ p :: x :: Q ++ (Z ++ post))[ia]? = some x) := Lib.hid (by
            have e2 : pre ++ P' ++ p :: x :: Q ++ (Z ++ post) = (pre ++ P' ++ [p]) ++ x :: (Q ++ (Z ++ post)) := by simp only [List.append_assoc, List.cons_append, List.nil_append]
            rw [e2]; exact getM_mid (by rw [List.length_append, hpl]; simp; omega))
          have Hb2 : Hid ((pre ++ P' ++ p :: x :: Q ++ (Z ++ post))[ib]? = some p) := Lib.hid (by
            have e2 : pre ++ P' ++ p :: x :: Q ++ (Z ++ post) = (pre ++ P') ++ p :: (x :: Q ++ (Z ++ post)) := by simp only [List.append_assoc, List.cons_append]
            rw [e2]; exact getM_mid hpl)
          have hlenN : ia < N := by rw [← HLN2.out]; simp only [List.length_append, List.length_cons]; omega
          have hia : ia < N := hlenN
          have hib : ib < N := by omega
          have hiaI : (ia : Int) < (N : Int) := by omega
          have hibI : (ib : Int) < (N : Int) := by omega
          have hwb : IntKind.i64.wrap ((ia : Int) - 1) = (ib : Int) := by rw [IntWalk.i64_in _ (by omega)]; omega
          have hgt : decide (a < ia) = true := by simp; omega
          have Hsw : Hid (((pre ++ P' ++ p :: x :: Q ++ (Z ++ post)).set ia p).set ib x = pre ++ P' ++ x :: p :: Q ++ (Z ++ post)) := Lib.hid (by
            have := swap_mid (pre := pre) (P := P') (Q := Q) (post := Z ++ post) (p := p) (x := x) hpl
            rw [show ib + 1 = ia by omega] at this
            exact this)
          have Dp : Hid (D p) := Lib.hid (HYD.out p (by rw [← hPQ.out]; simp))
          have HS1 : Hid (Srt (leOf lt) (P' ++ [p])) := Lib.hid ((srt_append.1 (by rw [hPQ.out]; exact hs.out)).1)
          obtain ⟨⟨_, _, _, _, _, Ix⟩, _⟩ := hS.rowCell (e := Rep.int) 0 rfl rfl Ha.out
          obtain ⟨⟨_, _, _, _, _, Iy⟩, _⟩ := hS.rowCell (e := Rep.int) 0 rfl rfl Hb2.out
          have Ix := Lib.hid Ix
          have Iy := Lib.hid Iy
          have Hb := Hb2
          clear Hb2
          obtain ⟨y, rfl⟩ : ∃ y, y = p := ⟨_, rfl⟩
          have Dy := Dp
          cases hxp : lt x y
          · have Hlt := Lib.hid hxp
            have HF := Lib.hid (Done.out (fun z hz => hpre.trans (below_last hpre HS1.out z hz) (show leOf lt y x from hxp)))
            clear hxp
            go_wp2_with (first | ((with_reducible show Code.wp _ (Code.region 4 _ true) _ _ _); refine wp_region_drawn [(0, 0), (1, 0), (2, 0), (3, 0), (4, 0), (5, 0), (6, 0), (7, 0), (8, 1), (9, 0), (10, 0), (11, 0), (12, 0), (13, 1), (14, 2), (15, 0), (16, 0)] (by kernel_rfl) (by kernel_rfl) (by intro _ _ dq _ _ hq; cases dq <;> exact hq) ?_; replace hS := hS.mod (Mod.drew (Mod.refl _ _)); (generalize hwd : World.drew _ = wz at hS ⊢); clear hwd) | ((with_reducible show wpD _ _ _ ((_, 1) :: _) _ _); (first | refine D_load rfl rfl (fun x hx => f_loadRow (g := g) (off := off) (k := ia) (n := N) (c := c) (hS.mod hx) rfl rfl Ha.out) ?_ | refine D_load rfl rfl (fun x hx => f_loadRow (g := g) (off := off) (k := ib) (n := N) (c := c) (hS.mod hx) rfl rfl Hb.out) ?_); (first | show wpD _ _ _ _ (Act.put _ (some _) _) _ | show wpD _ _ _ _ (Act.put _ none _) _); (simp only [Act.put, sA, sZ, sS])) | ((with_reducible show wpD _ _ _ ((_, 2) :: _) _ _); (refine D_call (f := 164) (args := ?_) rfl rfl ?_ ?_); rotate_left 1; (show (Sem.run _ (execOp _ (Oper.mk _ _ _ _ _ _)) _) = _; go_simp; rfl); refine (hcmp _ _ hS x y Dx.out Dy.out).mono ?_; rintro e wy ⟨⟨r, rfl, hr⟩, hM⟩; (rw [Hlt.out] at hr); replace hS := hS.mod hM; refine ⟨_, rfl, hM, ?_⟩; clear hM; (first | show wpD _ _ _ _ (Act.put _ (some _) _) _ | show wpD _ _ _ _ (Act.put _ none _) _); (simp only [Act.put, sA, sZ, sS])) | ((with_reducible show wpD _ _ _ [] _ _); refine D_nil ?_) | ((with_reducible show wpD _ _ _ ((_, 0) :: _) _ _); (first | (refine D_skip rfl rfl ?_; (first | show wpD _ _ _ _ (Act.put _ (some _) _) _ | show wpD _ _ _ _ (Act.put _ none _) _); (simp only [Act.put, sA, sZ, sS])) | (refine D_pure (v := ?_) rfl rfl (fun wq => ?_) ?_; rotate_left 1; (show (Sem.run _ (execOp _ (Oper.mk _ _ _ _ _ _)) _) = _; go_simp; (try go_bits); with_reducible rfl); (first | show wpD _ _ _ _ (Act.put _ (some _) _) _ | show wpD _ _ _ _ (Act.put _ none _) _); (simp only [Act.put, sA, sZ, sS])))))
            go_roundw
            case rel => exact ⟨k + 1, i2, (P' ++ [y]) ++ x :: Q, rfl, by have := Hi.out; omega, by omega, by omega, Lib.hid HF.out.2, Lib.hid HF.out.1, by rw [HZ.out]; simpa only [List.append_assoc, List.cons_append, List.nil_append] using hS⟩
            case measure => simp [intOf]; omega
          · have Hlt := Lib.hid hxp
            have hle2 : leOf lt x y := by
              rcases hpre.total x y with h | h
              · exact h
              · unfold leOf at h; rw [hxp] at h; cases h
            have HQ : Hid (∀ z ∈ y :: Q, leOf lt x z) := Lib.hid (fun z hz => by rcases List.mem_cons.1 hz with rfl | h; exact hle2; exact hQ.out z h)
            clear hxp hle2
            go_wp2_with (first | ((with_reducible show Code.wp _ (Code.region 4 _ true) _ _ _); refine wp_region_drawn [(0, 0), (1, 0), (2, 0), (3, 0), (4, 0), (5, 0), (6, 0), (7, 0), (8, 1), (9, 0), (10, 0), (11, 0), (12, 0), (13, 1), (14, 2), (15, 0), (16, 0)] (by kernel_rfl) (by kernel_rfl) (by intro _ _ dq _ _ hq; cases dq <;> exact hq) ?_; replace hS := hS.mod (Mod.drew (Mod.refl _ _)); (generalize hwd : World.drew _ = wz at hS ⊢); clear hwd) | ((with_reducible show Code.wp _ (Code.region 6 _ true) _ _ _); refine wp_region_drawn [(0, 0), (1, 0), (2, 0), (3, 0), (4, 0), (5, 0), (6, 0), (7, 0), (8, 0), (9, 1), (10, 0), (11, 0), (12, 0), (13, 1), (14, 0), (15, 3), (16, 0), (17, 3)] (by kernel_rfl) (by kernel_rfl) (by intro _ _ dq _ _ hq; cases dq <;> exact hq) ?_; replace hS := hS.mod (Mod.drew (Mod.refl _ _)); (generalize hwd : World.drew _ = wz at hS ⊢); clear hwd) | ((with_reducible show wpD _ _ _ ((_, 1) :: _) _ _); (first | refine D_load rfl rfl (fun x hx => f_loadRow (g := g) (off := off) (k := ia) (n := N) (c := c) (hS.mod hx) rfl rfl Ha.out) ?_ | refine D_load rfl rfl (fun x hx => f_loadRow (g := g) (off := off) (k := ib) (n := N) (c := c) (hS.mod hx) rfl rfl Hb.out) ?_); (first | show wpD _ _ _ _ (Act.put _ (some _) _) _ | show wpD _ _ _ _ (Act.put _ none _) _); (simp only [Act.put, sA, sZ, sS])) | ((with_reducible show wpD _ _ _ ((_, 3) :: _) _ _); (first | refine D_loud rfl rfl (does_storeEl (e := Rep.int) (k := ia) 0 (hS.int Iy.out) rfl rfl rfl rfl rfl rfl hia) ?_ | refine D_loud rfl rfl (does_storeEl (e := Rep.int) (k := ib) 0 (hS.int Ix.out) rfl rfl rfl rfl rfl rfl hib) ?_); clear hS; rintro _ wx ⟨rfl, hS⟩; (simp only [sZ, sS] at hS); (first | show wpD _ _ _ _ (Act.put _ (some _) _) _ | show wpD _ _ _ _ (Act.put _ none _) _); (simp only [Act.put, sA, sZ, sS])) | ((with_reducible show wpD _ _ _ ((_, 2) :: _) _ _); (refine D_call (f := 164) (args := ?_) rfl rfl ?_ ?_); rotate_left 1; (show (Sem.run _ (execOp _ (Oper.mk _ _ _ _ _ _)) _) = _; go_simp; rfl); refine (hcmp _ _ hS x y Dx.out Dy.out).mono ?_; rintro e wy ⟨⟨r, rfl, hr⟩, hM⟩; (rw [Hlt.out] at hr); replace hS := hS.mod hM; refine ⟨_, rfl, hM, ?_⟩; clear hM; (first | show wpD _ _ _ _ (Act.put _ (some _) _) _ | show wpD _ _ _ _ (Act.put _ none _) _); (simp only [Act.put, sA, sZ, sS])) | ((with_reducible show wpD _ _ _ [] _ _); refine D_nil ?_) | ((with_reducible show wpD _ _ _ ((_, 0) :: _) _ _); (first | (refine D_skip rfl rfl ?_; (first | show wpD _ _ _ _ (Act.put _ (some _) _) _ | show wpD _ _ _ _ (Act.put _ none _) _); (simp only [Act.put, sA, sZ, sS])) | (refine D_pure (v := ?_) rfl rfl (fun wq => ?_) ?_; rotate_left 1; (show (Sem.run _ (execOp _ (Oper.mk _ _ _ _ _ _)) _) = _; go_simp; (try go_bits); with_reducible rfl); (first | show wpD _ _ _ _ (Act.put _ (some _) _) _ | show wpD _ _ _ _ (Act.put _ none _) _); (simp only [Act.put, sA, sZ, sS])))))
            go_roundw
            case rel => exact ⟨P', y :: Q, ib, rfl, by rw [hq, hib0], Lib.hid (by rw [← hPQ.out]; simp), HQ, by omega, by rw [← Hsw.out]; exact hS⟩
            case measure => simp [intOf]; omega
    · have hd : X.drop k = [] := List.drop_of_length_le (by omega)
      have ht : X.take k = X := List.take_of_length_le (by omega)
      have hYX := hY.out
      rw [ht] at hYX
      rw [hd, List.nil_append] at hS
      have HYX := Lib.hid hYX
      have hge : ¬ (i : Int) < (b : Int) := by have := Hb.out; omega
      clear hi
      clear hY hYX hd ht
      go_wp2_with (first | ((with_reducible show wpList _ _ _ (⟨_, Op.load _ _, _, _, _, _⟩ :: _) _ _); (first | refine Gives.list (f_load hS rfl rfl (by rfl)) rfl ?_ | refine Gives.list (f_loadS hS rfl rfl (by rfl)) rfl ?_ | refine Gives.list (f_loadAt hS rfl rfl) rfl ?_ | refine Gives.list (f_loadAtS hS rfl rfl (by rfl)) rfl ?_ | refine Gives.list (f_loadAtF hS rfl rfl (by rfl)) rfl ?_); (simp only [Act.put, sA, sZ, sS])))
      (try simp only [Exit.inBlock, Exit.then])
      (first | refine bodyPost_ret (results_none rfl _ _ _) rfl ?_ | refine bodyPost_end (results_none rfl _ _ _) rfl ?_)
      exact ⟨rfl, Y, HYX.out, hs.out, by simpa only [List.append_assoc] using hS⟩
end Go.Proofs.YtldknaajnnohiaaDoor
end

section
namespace Go.Proofs.YtldknaajnnohiaaDoor
open Go.RowKit


theorem mid_words {i j S h : Nat} (hS : i + j = S) (hh : S / 2 = h) (hb : S ≤ 1000000000000) : IntKind.i64.wrap ((i : Int) + (j : Int)) = (S : Int) ∧ IntKind.u64.wrap (S : Int) = (S : Int) ∧ (S : Int).fdiv 2 = (h : Int) ∧ (S : Int) / 2 = (h : Int) ∧ IntKind.i64.wrap (h : Int) = (h : Int) := by
  refine ⟨by rw [IntWalk.i64_in _ (by omega)]; omega, ?_, ?_, by omega, IntWalk.i64_in _ (by omega)⟩
  · show (S : Int) % 2 ^ 64 = S
    omega
  · rw [Int.fdiv_eq_ediv_of_nonneg _ (by omega)]; omega
section
variable {lt : Int → Int → Bool}
theorem lt_le_lt (hpre : Pre (leOf lt)) {x y z : Int} (h1 : leOf lt x y) (h2 : lt y z = true) : lt x z = true := by
  cases h : lt x z
  · have h3 : leOf lt z x := h
    have h4 : leOf lt z y := hpre.trans h3 h1
    unfold leOf at h4; rw [h2] at h4; cases h4
  · rfl
theorem le_lt_lt (hpre : Pre (leOf lt)) {x y z : Int} (h1 : lt x y = true) (h2 : leOf lt y z) : lt x z = true := by
  cases h : lt x z
  · have h3 : leOf lt z x := h
    have h4 : leOf lt y x := hpre.trans h2 h3
    unfold leOf at h4; rw [h1] at h4; cases h4
  · rfl
theorem lt_le (hpre : Pre (leOf lt)) {x y : Int} (h : lt x y = true) : leOf lt x y := by
  rcases hpre.total x y with h1 | h1
  · exact h1
  · unfold leOf at h1; rw [h] at h1; cases h1
theorem get_app {pre L post : List Int} {a q : Nat} (ha : pre.length = a) (hq : q < L.length) : (pre ++ L ++ post)[a + q]? = some L[q] := by
  subst ha
  rw [List.append_assoc, List.getElem?_append_right (by omega), Nat.add_sub_cancel_left, List.getElem?_append_left hq, List.getElem?_eq_getElem hq]
/-- What stands when x has passed r cells of R. -/
def pasR (pre : List Int) (x : Int) (R post : List Int) (r : Nat) : List Int := pre ++ R.take r ++ x :: (R.drop r ++ post)
theorem pasR_len {pre R post : List Int} {x : Int} {r : Nat} : (pasR pre x R post r).length = pre.length + R.length + 1 + post.length := by
  simp only [pasR, List.length_append, List.length_cons, List.length_take, List.length_drop]; omega
theorem pasR_form {pre R post : List Int} {x : Int} {r : Nat} (h : r < R.length) : pasR pre x R post r = pre ++ R.take r ++ x :: R[r] :: (R.drop (r + 1) ++ post) := by
  unfold pasR; rw [List.drop_eq_getElem_cons h]; simp only [List.cons_append]
theorem pasR_a {pre R post : List Int} {x : Int} {r a : Nat} (ha : pre.length = a) (h : r ≤ R.length) : (pasR pre x R post r)[a + r]? = some x := getM_mid (by rw [List.length_append, List.length_take]; omega)
theorem pasR_b {pre R post : List Int} {x : Int} {r a : Nat} (ha : pre.length = a) (h : r < R.length) : (pasR pre x R post r)[a + (r + 1)]? = some R[r] := by
  rw [pasR_form h]
  have e : pre ++ R.take r ++ x :: R[r] :: (R.drop (r + 1) ++ post) = (pre ++ R.take r ++ [x]) ++ R[r] :: (R.drop (r + 1) ++ post) := by simp only [List.append_assoc, List.cons_append, List.nil_append]
  rw [e]
  exact getM_mid (by simp only [List.length_append, List.length_take, List.length_cons, List.length_nil]; omega)
theorem pasR_succ {pre R post : List Int} {x : Int} {r a : Nat} (ha : pre.length = a) (h : r < R.length) : ((pasR pre x R post r).set (a + r) R[r]).set (a + (r + 1)) x = pasR pre x R post (r + 1) := by
  rw [pasR_form h, setM_mid (by rw [List.length_append, List.length_take]; omega)]
  have e : pre ++ R.take r ++ R[r] :: R[r] :: (R.drop (r + 1) ++ post) = (pre ++ R.take r ++ [R[r]]) ++ R[r] :: (R.drop (r + 1) ++ post) := by simp only [List.append_assoc, List.cons_append, List.nil_append]
  rw [e, setM_mid (by simp only [List.length_append, List.length_take, List.length_cons, List.length_nil]; omega)]
  unfold pasR
  rw [List.take_succ_eq_append_getElem h]
  simp only [List.append_assoc, List.cons_append, List.nil_append]
end
set_option maxHeartbeats 8000000 in
set_option maxRecDepth 8000 in
theorem symL_w {w0 w : World} {Γ : List Fact} (g off N c bp bc : Nat) (D : Int → Prop) (lt : Int → Int → Bool) (hpre : Pre (leOf lt)) (hcmp : CmpOk w0 Γ g off N c bp bc D lt) (pre R post : List Int) (y : Int) (a m b : Nat) (hN : (pre ++ [y] ++ R ++ post).length = N) (hN2 : N ≤ 1000000000) (ha : pre.length = a) (hm : a + 1 = m) (hb : m + R.length = b) (hD : ∀ z ∈ y :: R, D z) (hR : Srt (leOf lt) R)
    (hS : Sat w0 w (.own Rep.int.rows [.slice (some ⟨g, off, none⟩) N c] (pre ++ [y] ++ R ++ post) :: Γ)) :
    Calls Tryd.prog 201 #[.slice (some ⟨g, off, none⟩) N c, .int .i64 (a : Int), .int .i64 (m : Int), .int .i64 (b : Int), .func (.func 164) #[] #[.pointer (some ⟨bp, 0, none⟩), .pointer (some ⟨bc, 0, none⟩)]] w fun e w' => e = .returned (.tuple #[]) ∧ ∃ Y, Y.Perm ([y] ++ R) ∧ Srt (leOf lt) Y ∧ Sat w0 w' (.own Rep.int.rows [.slice (some ⟨g, off, none⟩) N c] (pre ++ Y ++ post) :: Γ) := by
  have hbN : b ≤ N := by rw [← hN]; simp only [List.length_append, List.length_cons, List.length_nil]; omega
  have hw1 : IntKind.i64.wrap ((m : Int) - (a : Int)) = 1 := by rw [IntWalk.i64_in _ (by omega)]; omega
  have Dy : Hid (D y) := Lib.hid (hD y (by simp))
  have HDR : Hid (∀ z ∈ R, D z) := Lib.hid (fun z hz => hD z (by simp [hz]))
  have HR := Lib.hid hR
  have HN := Lib.hid hN
  have e0 : pre ++ [y] ++ R ++ post = pasR pre y R post 0 := by simp [pasR]
  have HGR : ∀ q (h : q < R.length), (pre ++ [y] ++ R ++ post)[m + q]? = some R[q] := fun q h => get_app (by rw [List.length_append, ha]; exact hm) h
  have Ha0 : (pre ++ [y] ++ R ++ post)[a]? = some y := by rw [e0]; exact pasR_a ha (Nat.zero_le _)
  obtain ⟨xs, hxs⟩ : ∃ xs, pre ++ [y] ++ R ++ post = xs := ⟨_, rfl⟩
  rw [hxs] at hS e0 HGR Ha0
  have HGR := Lib.hid HGR
  have Hb := Lib.hid Ha0
  have E0 := Lib.hid e0
  clear hD hR hN e0 Ha0 hxs
  obtain ⟨ib, hib0⟩ : ∃ i, a = i := ⟨_, rfl⟩
  rw [hib0] at Hb
  have hib : ib < N := by omega
  have hibI : (ib : Int) < (N : Int) := by omega
  go_enter Tryd.func201, Tryd.ntmps201
  go_wp2_with (first | ((with_reducible show wpList _ _ _ (⟨_, Op.load _ _, _, _, _, _⟩ :: _) _ _); (first | refine Gives.list (f_load hS rfl rfl (by rfl)) rfl ?_ | refine Gives.list (f_loadS hS rfl rfl (by rfl)) rfl ?_ | refine Gives.list (f_loadAt hS rfl rfl) rfl ?_ | refine Gives.list (f_loadAtS hS rfl rfl (by rfl)) rfl ?_ | refine Gives.list (f_loadAtF hS rfl rfl (by rfl)) rfl ?_); (simp only [Act.put, sA, sZ, sS])))
  go_loopw [10, 11] (fun iv jv wr => ∃ (s t i j : Nat), iv = .int .i64 (i : Int) ∧ jv = .int .i64 (j : Int) ∧ m + s = i ∧ m + t = j ∧ s ≤ t ∧ t ≤ R.length ∧ Hid (∀ q (h : q < R.length), q < s → lt R[q] y = true) ∧ Hid (∀ q (h : q < R.length), t ≤ q → lt R[q] y = false) ∧ Sat w0 wr (.own Rep.int.rows [.slice (some ⟨g, off, none⟩) N c] xs :: Γ)) (fun iv jv _ => (intOf jv).toNat - (intOf iv).toNat)
  case atStart => exact ⟨0, R.length, m, b, rfl, rfl, rfl, hb, Nat.zero_le _, Nat.le_refl _, Lib.hid (by omega), Lib.hid (by intro q h h2; omega), hS⟩
  case round =>
    clear hS
    obtain ⟨s, t, i, j, rfl, rfl, hi, hj, hst, htR, hlo, hhi, hS⟩ := hrel
    by_cases hlt : i < j
    · have hltI : (i : Int) < (j : Int) := by omega
      obtain ⟨S, hS0⟩ : ∃ S, i + j = S := ⟨_, rfl⟩
      obtain ⟨ia, hh⟩ : ∃ h, S / 2 = h := ⟨_, rfl⟩
      obtain ⟨m1, m2, m3, m4, m5⟩ := mid_words hS0 hh (by omega)
      obtain ⟨u, hu⟩ : ∃ u, m + u = ia := ⟨ia - m, by omega⟩
      have hus : s ≤ u ∧ u < t := by omega
      have huR : u < R.length := by omega
      have Ha : Hid (xs[ia]? = some R[u]) := Lib.hid (by rw [← hu]; exact HGR.out u huR)
      have Dx : Hid (D R[u]) := Lib.hid (HDR.out _ (List.getElem_mem huR))
      have hia : ia < N := by omega
      have hiaI : (ia : Int) < (N : Int) := by omega
      have hw5 : IntKind.i64.wrap ((ia : Int) + 1) = ((ia + 1 : Nat) : Int) := by rw [IntWalk.i64_in _ (by omega)]; omega
      cases hc : lt R[u] y
      · have Hhi : Hid (∀ q (h : q < R.length), u ≤ q → lt R[q] y = false) := Lib.hid (fun q h h2 => by
          cases h3 : lt R[q] y
          · rfl
          · rw [lt_le_lt hpre (srt_get hpre HR.out h2 h) h3] at hc; cases hc)
        have Hlt := Lib.hid hc
        clear hc
        generalize R[u] = x at Ha Dx Hlt
        go_wp2_with (first | ((with_reducible show Code.wp _ (Code.region 5 _ true) _ _ _); refine wp_region_drawn [(0, 0), (1, 0), (2, 0), (3, 0), (4, 1), (5, 0), (6, 0), (7, 0), (8, 1), (9, 2), (10, 0)] (by kernel_rfl) (by kernel_rfl) (by intro _ _ dq _ _ hq; cases dq <;> exact hq) ?_; replace hS := hS.mod (Mod.drew (Mod.refl _ _)); (generalize hwd : World.drew _ = wz at hS ⊢); clear hwd) | ((with_reducible show wpD _ _ _ ((_, 1) :: _) _ _); (first | refine D_load rfl rfl (fun x hx => f_loadRow (g := g) (off := off) (k := ia) (n := N) (c := c) (hS.mod hx) rfl rfl Ha.out) ?_ | refine D_load rfl rfl (fun x hx => f_loadRow (g := g) (off := off) (k := ib) (n := N) (c := c) (hS.mod hx) rfl rfl Hb.out) ?_); (first | show wpD _ _ _ _ (Act.put _ (some _) _) _ | show wpD _ _ _ _ (Act.put _ none _) _); (simp only [Act.put, sA, sZ, sS])) | ((with_reducible show wpD _ _ _ ((_, 2) :: _) _ _); (refine D_call (f := 164) (args := ?_) rfl rfl ?_ ?_); rotate_left 1; (show (Sem.run _ (execOp _ (Oper.mk _ _ _ _ _ _)) _) = _; go_simp; rfl); refine (hcmp _ _ hS x y Dx.out Dy.out).mono ?_; rintro e wy ⟨⟨r, rfl, hr⟩, hM⟩; (rw [Hlt.out] at hr); replace hS := hS.mod hM; refine ⟨_, rfl, hM, ?_⟩; clear hM; (first | show wpD _ _ _ _ (Act.put _ (some _) _) _ | show wpD _ _ _ _ (Act.put _ none _) _); (simp only [Act.put, sA, sZ, sS])) | ((with_reducible show wpD _ _ _ [] _ _); refine D_nil ?_) | ((with_reducible show wpD _ _ _ ((_, 0) :: _) _ _); (first | (refine D_skip rfl rfl ?_; (first | show wpD _ _ _ _ (Act.put _ (some _) _) _ | show wpD _ _ _ _ (Act.put _ none _) _); (simp only [Act.put, sA, sZ, sS])) | (refine D_pure (v := ?_) rfl rfl (fun wq => ?_) ?_; rotate_left 1; (show (Sem.run _ (execOp _ (Oper.mk _ _ _ _ _ _)) _) = _; go_simp; (try go_bits); with_reducible rfl); (first | show wpD _ _ _ _ (Act.put _ (some _) _) _ | show wpD _ _ _ _ (Act.put _ none _) _); (simp only [Act.put, sA, sZ, sS])))))
        go_roundw
        case rel => exact ⟨s, u, i, ia, rfl, rfl, hi, hu, hus.1, by omega, hlo, Hhi, hS⟩
        case measure => simp [intOf]; omega
      · have Hlo : Hid (∀ q (h : q < R.length), q < u + 1 → lt R[q] y = true) := Lib.hid (fun q h h2 => lt_le_lt hpre (srt_get hpre HR.out (i := q) (j := u) (by omega) huR) hc)
        have Hlt := Lib.hid hc
        clear hc
        generalize R[u] = x at Ha Dx Hlt
        go_wp2_with (first | ((with_reducible show Code.wp _ (Code.region 5 _ true) _ _ _); refine wp_region_drawn [(0, 0), (1, 0), (2, 0), (3, 0), (4, 1), (5, 0), (6, 0), (7, 0), (8, 1), (9, 2), (10, 0)] (by kernel_rfl) (by kernel_rfl) (by intro _ _ dq _ _ hq; cases dq <;> exact hq) ?_; replace hS := hS.mod (Mod.drew (Mod.refl _ _)); (generalize hwd : World.drew _ = wz at hS ⊢); clear hwd) | ((with_reducible show wpD _ _ _ ((_, 1) :: _) _ _); (first | refine D_load rfl rfl (fun x hx => f_loadRow (g := g) (off := off) (k := ia) (n := N) (c := c) (hS.mod hx) rfl rfl Ha.out) ?_ | refine D_load rfl rfl (fun x hx => f_loadRow (g := g) (off := off) (k := ib) (n := N) (c := c) (hS.mod hx) rfl rfl Hb.out) ?_); (first | show wpD _ _ _ _ (Act.put _ (some _) _) _ | show wpD _ _ _ _ (Act.put _ none _) _); (simp only [Act.put, sA, sZ, sS])) | ((with_reducible show wpD _ _ _ ((_, 2) :: _) _ _); (refine D_call (f := 164) (args := ?_) rfl rfl ?_ ?_); rotate_left 1; (show (Sem.run _ (execOp _ (Oper.mk _ _ _ _ _ _)) _) = _; go_simp; rfl); refine (hcmp _ _ hS x y Dx.out Dy.out).mono ?_; rintro e wy ⟨⟨r, rfl, hr⟩, hM⟩; (rw [Hlt.out] at hr); replace hS := hS.mod hM; refine ⟨_, rfl, hM, ?_⟩; clear hM; (first | show wpD _ _ _ _ (Act.put _ (some _) _) _ | show wpD _ _ _ _ (Act.put _ none _) _); (simp only [Act.put, sA, sZ, sS])) | ((with_reducible show wpD _ _ _ [] _ _); refine D_nil ?_) | ((with_reducible show wpD _ _ _ ((_, 0) :: _) _ _); (first | (refine D_skip rfl rfl ?_; (first | show wpD _ _ _ _ (Act.put _ (some _) _) _ | show wpD _ _ _ _ (Act.put _ none _) _); (simp only [Act.put, sA, sZ, sS])) | (refine D_pure (v := ?_) rfl rfl (fun wq => ?_) ?_; rotate_left 1; (show (Sem.run _ (execOp _ (Oper.mk _ _ _ _ _ _)) _) = _; go_simp; (try go_bits); with_reducible rfl); (first | show wpD _ _ _ _ (Act.put _ (some _) _) _ | show wpD _ _ _ _ (Act.put _ none _) _); (simp only [Act.put, sA, sZ, sS])))))
        go_roundw
        case rel => exact ⟨u + 1, t, ia + 1, j, by go_num, rfl, by omega, hj, by omega, htR, Hlo, hhi, hS⟩
        case measure => simp [intOf]; omega
    · obtain rfl : t = s := by omega
      have HY : Hid (Srt (leOf lt) (R.take t ++ y :: R.drop t)) := Lib.hid (insert_ok (by rw [List.take_append_drop]; exact HR.out)
        (fun z hz => by
          obtain ⟨q, hq, rfl⟩ := List.mem_iff_getElem.1 hz
          rw [List.length_take] at hq
          rw [List.getElem_take]
          exact lt_le hpre (hlo.out q (by omega) (by omega)))
        (fun z hz => by
          obtain ⟨q, hq, rfl⟩ := List.mem_iff_getElem.1 hz
          rw [List.length_drop] at hq
          rw [List.getElem_drop]
          exact hhi.out (t + q) (by omega) (by omega)))
      have HP : Hid ((R.take t ++ y :: R.drop t).Perm ([y] ++ R)) := Lib.hid (by
        refine (List.perm_middle).trans ?_
        rw [List.take_append_drop]
        exact List.Perm.refl _)
      have HE : Hid (pasR pre y R post t = pre ++ (R.take t ++ y :: R.drop t) ++ post) := Lib.hid (by simp only [pasR, List.append_assoc, List.cons_append])
      have hw6 : IntKind.i64.wrap ((i : Int) - 1) = ((i - 1 : Nat) : Int) := by rw [IntWalk.i64_in _ (by omega)]; omega
      rw [E0.out] at hS
      clear hlo hhi
      go_wp2_with (first | ((with_reducible show wpList _ _ _ (⟨_, Op.load _ _, _, _, _, _⟩ :: _) _ _); (first | refine Gives.list (f_load hS rfl rfl (by rfl)) rfl ?_ | refine Gives.list (f_loadS hS rfl rfl (by rfl)) rfl ?_ | refine Gives.list (f_loadAt hS rfl rfl) rfl ?_ | refine Gives.list (f_loadAtS hS rfl rfl (by rfl)) rfl ?_ | refine Gives.list (f_loadAtF hS rfl rfl (by rfl)) rfl ?_); (simp only [Act.put, sA, sZ, sS])))
      go_loopw [13] (fun kv wr => ∃ r k : Nat, kv = .int .i64 (k : Int) ∧ a + r = k ∧ r ≤ t ∧ Sat w0 wr (.own Rep.int.rows [.slice (some ⟨g, off, none⟩) N c] (pasR pre y R post r) :: Γ)) (fun kv _ => i - (intOf kv).toNat)
      case atStart => exact ⟨0, a, by rw [hib0], rfl, Nat.zero_le _, hS⟩
      case round =>
        clear hS
        obtain ⟨r, k, rfl, hk, hrt, hS⟩ := hrel
        by_cases hlt2 : r < t
        · have hkI : (k : Int) < ((i - 1 : Nat) : Int) := by omega
          have hrR : r < R.length := by omega
          have Hx := pasR_a (x := y) (R := R) (post := post) ha (Nat.le_of_lt hrR)
          have Hy := pasR_b (x := y) (post := post) ha hrR
          have Hs := pasR_succ (x := y) (post := post) ha hrR
          obtain ⟨ia, hia0⟩ : ∃ i, a + r = i := ⟨_, rfl⟩
          obtain ⟨ib, hib1⟩ : ∃ i, a + (r + 1) = i := ⟨_, rfl⟩
          rw [hia0] at Hx Hs
          rw [hib1] at Hy Hs
          have hia : ia < N := by omega
          have hib : ib < N := by omega
          have hiaI : (ia : Int) < (N : Int) := by omega
          have hibI : (ib : Int) < (N : Int) := by omega
          obtain rfl : ia = k := by omega
          have hw7 : IntKind.i64.wrap ((ia : Int) + 1) = (ib : Int) := by rw [IntWalk.i64_in _ (by omega)]; omega
          obtain ⟨⟨_, _, _, _, _, Ix⟩, _⟩ := hS.rowCell (e := Rep.int) 0 rfl rfl Hx
          obtain ⟨⟨_, _, _, _, _, Iy⟩, _⟩ := hS.rowCell (e := Rep.int) 0 rfl rfl Hy
          obtain ⟨z, hz⟩ : ∃ z, R[r] = z := ⟨_, rfl⟩
          obtain ⟨Y, hY⟩ : ∃ Y, pasR pre y R post r = Y := ⟨_, rfl⟩
          rw [hz] at Hy Hs Iy
          rw [hY] at Hx Hy Hs hS
          have Ix := Lib.hid Ix
          have Iy := Lib.hid Iy
          have Ha := Lib.hid Hx
          have Hb := Lib.hid Hy
          have Hs := Lib.hid Hs
          clear hz hY Hx Hy
          go_wp2_with (first | ((with_reducible show Code.wp _ (Code.region 11 _ true) _ _ _); refine wp_region_drawn [(0, 0), (1, 0), (2, 0), (3, 0), (4, 0), (5, 0), (6, 0), (7, 0), (8, 0), (9, 1), (10, 0), (11, 0), (12, 0), (13, 1), (14, 0), (15, 3), (16, 0), (17, 3)] (by kernel_rfl) (by kernel_rfl) (by intro _ _ dq _ _ hq; cases dq <;> exact hq) ?_; replace hS := hS.mod (Mod.drew (Mod.refl _ _)); (generalize hwd : World.drew _ = wz at hS ⊢); clear hwd) | ((with_reducible show wpD _ _ _ ((_, 1) :: _) _ _); (first | refine D_load rfl rfl (fun x hx => f_loadRow (g := g) (off := off) (k := ia) (n := N) (c := c) (hS.mod hx) rfl rfl Ha.out) ?_ | refine D_load rfl rfl (fun x hx => f_loadRow (g := g) (off := off) (k := ib) (n := N) (c := c) (hS.mod hx) rfl rfl Hb.out) ?_); (first | show wpD _ _ _ _ (Act.put _ (some _) _) _ | show wpD _ _ _ _ (Act.put _ none _) _); (simp only [Act.put, sA, sZ, sS])) | ((with_reducible show wpD _ _ _ ((_, 3) :: _) _ _); (first | refine D_loud rfl rfl (does_storeEl (e := Rep.int) (k := ia) 0 (hS.int Iy.out) rfl rfl rfl rfl rfl rfl hia) ?_ | refine D_loud rfl rfl (does_storeEl (e := Rep.int) (k := ib) 0 (hS.int Ix.out) rfl rfl rfl rfl rfl rfl hib) ?_); clear hS; rintro _ wx ⟨rfl, hS⟩; (simp only [sZ, sS] at hS); (first | show wpD _ _ _ _ (Act.put _ (some _) _) _ | show wpD _ _ _ _ (Act.put _ none _) _); (simp only [Act.put, sA, sZ, sS])) | ((with_reducible show wpD _ _ _ [] _ _); refine D_nil ?_) | ((with_reducible show wpD _ _ _ ((_, 0) :: _) _ _); (first | (refine D_skip rfl rfl ?_; (first | show wpD _ _ _ _ (Act.put _ (some _) _) _ | show wpD _ _ _ _ (Act.put _ none _) _); (simp only [Act.put, sA, sZ, sS])) | (refine D_pure (v := ?_) rfl rfl (fun wq => ?_) ?_; rotate_left 1; (show (Sem.run _ (execOp _ (Oper.mk _ _ _ _ _ _)) _) = _; go_simp; (try go_bits); with_reducible rfl); (first | show wpD _ _ _ _ (Act.put _ (some _) _) _ | show wpD _ _ _ _ (Act.put _ none _) _); (simp only [Act.put, sA, sZ, sS])))))
          go_roundw
          case rel => exact ⟨r + 1, ib, by go_num, by omega, hlt2, by rw [← Hs.out]; exact hS⟩
          case measure => simp [intOf]; omega
        · obtain rfl : r = t := by omega
          have hkI : ¬ (k : Int) < ((i - 1 : Nat) : Int) := by omega
          rw [HE.out] at hS
          go_wp2_with (first | ((with_reducible show wpList _ _ _ (⟨_, Op.load _ _, _, _, _, _⟩ :: _) _ _); (first | refine Gives.list (f_load hS rfl rfl (by rfl)) rfl ?_ | refine Gives.list (f_loadS hS rfl rfl (by rfl)) rfl ?_ | refine Gives.list (f_loadAt hS rfl rfl) rfl ?_ | refine Gives.list (f_loadAtS hS rfl rfl (by rfl)) rfl ?_ | refine Gives.list (f_loadAtF hS rfl rfl (by rfl)) rfl ?_); (simp only [Act.put, sA, sZ, sS])))
          (try simp only [Exit.inBlock, Exit.then])
          (first | refine bodyPost_ret (results_none rfl _ _ _) rfl ?_ | refine bodyPost_end (results_none rfl _ _ _) rfl ?_)
          exact ⟨rfl, _, HP.out, HY.out, by simpa only [List.append_assoc, List.cons_append] using hS⟩
end Go.Proofs.YtldknaajnnohiaaDoor
end

section
namespace Go.Proofs.YtldknaajnnohiaaDoor
open Go.RowKit


section
theorem pasR_c {pre R post : List Int} {x : Int} {r a : Nat} (ha : pre.length = a) (h : r < R.length) : (pasR pre x R post (r + 1))[a + r]? = some R[r] := by
  unfold pasR
  rw [List.take_succ_eq_append_getElem h]
  have e : pre ++ (R.take r ++ [R[r]]) ++ x :: (R.drop (r + 1) ++ post) = (pre ++ R.take r) ++ R[r] :: (x :: (R.drop (r + 1) ++ post)) := by simp only [List.append_assoc, List.cons_append, List.nil_append]
  rw [e]
  exact getM_mid (by rw [List.length_append, List.length_take]; omega)
theorem pasR_pred {pre R post : List Int} {x : Int} {r a : Nat} (ha : pre.length = a) (h : r < R.length) : ((pasR pre x R post (r + 1)).set (a + (r + 1)) R[r]).set (a + r) x = pasR pre x R post r := by
  have h1 := pasR_succ (x := x) (post := post) ha h
  rw [← h1]
  apply List.ext_getElem?
  intro i
  have hl : (pasR pre x R post r).length = pre.length + R.length + 1 + post.length := pasR_len
  have hA := pasR_a (x := x) (R := R) (post := post) ha (Nat.le_of_lt h)
  have hB := pasR_b (x := x) (post := post) ha h
  by_cases h2 : i = a + r
  · subst h2
    rw [List.getElem?_set_self (by simp only [List.length_set]; omega), hA]
  · rw [List.getElem?_set_ne (by omega)]
    by_cases h3 : i = a + (r + 1)
    · subst h3
      rw [List.getElem?_set_self (by simp only [List.length_set]; omega), hB]
    · rw [List.getElem?_set_ne (by omega), List.getElem?_set_ne (by omega), List.getElem?_set_ne (by omega)]
end
set_option maxHeartbeats 8000000 in
set_option maxRecDepth 8000 in
theorem symR_w {w0 w : World} {Γ : List Fact} (g off N c bp bc : Nat) (D : Int → Prop) (lt : Int → Int → Bool) (hpre : Pre (leOf lt)) (hcmp : CmpOk w0 Γ g off N c bp bc D lt) (pre L post : List Int) (y : Int) (a m b : Nat) (hN : (pre ++ L ++ [y] ++ post).length = N) (hN2 : N ≤ 1000000000) (ha : pre.length = a) (hm : a + L.length = m) (hb : m + 1 = b) (hL2 : 2 ≤ L.length) (hD : ∀ z ∈ y :: L, D z) (hR : Srt (leOf lt) L)
    (hS : Sat w0 w (.own Rep.int.rows [.slice (some ⟨g, off, none⟩) N c] (pre ++ L ++ [y] ++ post) :: Γ)) :
    Calls Tryd.prog 201 #[.slice (some ⟨g, off, none⟩) N c, .int .i64 (a : Int), .int .i64 (m : Int), .int .i64 (b : Int), .func (.func 164) #[] #[.pointer (some ⟨bp, 0, none⟩), .pointer (some ⟨bc, 0, none⟩)]] w fun e w' => e = .returned (.tuple #[]) ∧ ∃ Y, Y.Perm (L ++ [y]) ∧ Srt (leOf lt) Y ∧ Sat w0 w' (.own Rep.int.rows [.slice (some ⟨g, off, none⟩) N c] (pre ++ Y ++ post) :: Γ) := by
  have hbN : b ≤ N := by rw [← hN]; simp only [List.length_append, List.length_cons, List.length_nil]; omega
  have hw1 : IntKind.i64.wrap ((m : Int) - (a : Int)) = (L.length : Int) := by rw [IntWalk.i64_in _ (by omega)]; omega
  have hne1 : ((L.length : Int) == 1) = false := by rw [beq_eq_false_iff_ne]; omega
  have hw2 : IntKind.i64.wrap ((b : Int) - (m : Int)) = 1 := by rw [IntWalk.i64_in _ (by omega)]; omega
  have Dy : Hid (D y) := Lib.hid (hD y (by simp))
  have HDR : Hid (∀ z ∈ L, D z) := Lib.hid (fun z hz => hD z (by simp [hz]))
  have HR := Lib.hid hR
  have HN := Lib.hid hN
  have e0 : pre ++ L ++ [y] ++ post = pasR pre y L post L.length := by simp [pasR]
  have HGR : ∀ q (h : q < L.length), (pre ++ L ++ [y] ++ post)[a + q]? = some L[q] := fun q h => by rw [List.append_assoc (pre ++ L)]; exact get_app ha h
  have Ha0 : (pre ++ L ++ [y] ++ post)[m]? = some y := by rw [e0, ← hm]; exact pasR_a ha (Nat.le_refl _)
  obtain ⟨xs, hxs⟩ : ∃ xs, pre ++ L ++ [y] ++ post = xs := ⟨_, rfl⟩
  rw [hxs] at hS e0 HGR Ha0
  have HGR := Lib.hid HGR
  have Hb := Lib.hid Ha0
  have E0 := Lib.hid e0
  clear hD hR hN e0 Ha0 hxs
  obtain ⟨ib, hib0⟩ : ∃ i, m = i := ⟨_, rfl⟩
  rw [hib0] at Hb
  have hib : ib < N := by omega
  have hibI : (ib : Int) < (N : Int) := by omega
  go_enter Tryd.func201, Tryd.ntmps201
  go_wp2_with (first | ((with_reducible show wpList _ _ _ (⟨_, Op.load _ _, _, _, _, _⟩ :: _) _ _); (first | refine Gives.list (f_load hS rfl rfl (by rfl)) rfl ?_ | refine Gives.list (f_loadS hS rfl rfl (by rfl)) rfl ?_ | refine Gives.list (f_loadAt hS rfl rfl) rfl ?_ | refine Gives.list (f_loadAtS hS rfl rfl (by rfl)) rfl ?_ | refine Gives.list (f_loadAtF hS rfl rfl (by rfl)) rfl ?_); (simp only [Act.put, sA, sZ, sS])))
  go_loopw [14, 15] (fun iv jv wr => ∃ (s t i j : Nat), iv = .int .i64 (i : Int) ∧ jv = .int .i64 (j : Int) ∧ a + s = i ∧ a + t = j ∧ s ≤ t ∧ t ≤ L.length ∧ Hid (∀ q (h : q < L.length), q < s → lt y L[q] = false) ∧ Hid (∀ q (h : q < L.length), t ≤ q → lt y L[q] = true) ∧ Sat w0 wr (.own Rep.int.rows [.slice (some ⟨g, off, none⟩) N c] xs :: Γ)) (fun iv jv _ => (intOf jv).toNat - (intOf iv).toNat)
  case atStart => exact ⟨0, L.length, a, m, rfl, by rw [hib0], rfl, hm, Nat.zero_le _, Nat.le_refl _, Lib.hid (by omega), Lib.hid (by intro q h h2; omega), hS⟩
  case round =>
    clear hS
    obtain ⟨s, t, i, j, rfl, rfl, hi, hj, hst, htR, hlo, hhi, hS⟩ := hrel
    by_cases hlt : i < j
    · have hltI : (i : Int) < (j : Int) := by omega
      obtain ⟨S, hS0⟩ : ∃ S, i + j = S := ⟨_, rfl⟩
      obtain ⟨ia, hh⟩ : ∃ h, S / 2 = h := ⟨_, rfl⟩
      obtain ⟨m1, m2, m3, m4, m5⟩ := mid_words hS0 hh (by omega)
      obtain ⟨u, hu⟩ : ∃ u, a + u = ia := ⟨ia - a, by omega⟩
      have hus : s ≤ u ∧ u < t := by omega
      have huR : u < L.length := by omega
      have Ha : Hid (xs[ia]? = some L[u]) := Lib.hid (by rw [← hu]; exact HGR.out u huR)
      have Dx : Hid (D L[u]) := Lib.hid (HDR.out _ (List.getElem_mem huR))
      have hia : ia < N := by omega
      have hiaI : (ia : Int) < (N : Int) := by omega
      have hw5 : IntKind.i64.wrap ((ia : Int) + 1) = ((ia + 1 : Nat) : Int) := by rw [IntWalk.i64_in _ (by omega)]; omega
      cases hc : lt y L[u]
      · have Hlo : Hid (∀ q (h : q < L.length), q < u + 1 → lt y L[q] = false) := Lib.hid (fun q h h2 => hpre.trans (srt_get hpre HR.out (i := q) (j := u) (by omega) huR) (show leOf lt L[u] y from hc))
        have Hlt := Lib.hid hc
        clear hc
        generalize L[u] = z at Ha Dx Hlt
        have Dz := Dx
        have Hz := Ha
        go_wp2_with (first | ((with_reducible show Code.wp _ (Code.region 17 _ true) _ _ _); refine wp_region_drawn [(0, 0), (1, 0), (2, 0), (3, 0), (4, 1), (5, 0), (6, 0), (7, 0), (8, 1), (9, 2), (10, 0), (11, 0)] (by kernel_rfl) (by kernel_rfl) (by intro _ _ dq _ _ hq; cases dq <;> exact hq) ?_; replace hS := hS.mod (Mod.drew (Mod.refl _ _)); (generalize hwd : World.drew _ = wz at hS ⊢); clear hwd) | ((with_reducible show wpD _ _ _ ((_, 1) :: _) _ _); (first | refine D_load rfl rfl (fun x hx => f_loadRow (g := g) (off := off) (k := ia) (n := N) (c := c) (hS.mod hx) rfl rfl Ha.out) ?_ | refine D_load rfl rfl (fun x hx => f_loadRow (g := g) (off := off) (k := ib) (n := N) (c := c) (hS.mod hx) rfl rfl Hb.out) ?_); (first | show wpD _ _ _ _ (Act.put _ (some _) _) _ | show wpD _ _ _ _ (Act.put _ none _) _); (simp only [Act.put, sA, sZ, sS])) | ((with_reducible show wpD _ _ _ ((_, 2) :: _) _ _); (refine D_call (f := 164) (args := ?_) rfl rfl ?_ ?_); rotate_left 1; (show (Sem.run _ (execOp _ (Oper.mk _ _ _ _ _ _)) _) = _; go_simp; rfl); refine (hcmp _ _ hS y z Dy.out Dz.out).mono ?_; rintro e wy ⟨⟨r, rfl, hr⟩, hM⟩; (rw [Hlt.out] at hr); replace hS := hS.mod hM; refine ⟨_, rfl, hM, ?_⟩; clear hM; (first | show wpD _ _ _ _ (Act.put _ (some _) _) _ | show wpD _ _ _ _ (Act.put _ none _) _); (simp only [Act.put, sA, sZ, sS])) | ((with_reducible show wpD _ _ _ [] _ _); refine D_nil ?_) | ((with_reducible show wpD _ _ _ ((_, 0) :: _) _ _); (first | (refine D_skip rfl rfl ?_; (first | show wpD _ _ _ _ (Act.put _ (some _) _) _ | show wpD _ _ _ _ (Act.put _ none _) _); (simp only [Act.put, sA, sZ, sS])) | (refine D_pure (v := ?_) rfl rfl (fun wq => ?_) ?_; rotate_left 1; (show (Sem.run _ (execOp _ (Oper.mk _ _ _ _ _ _)) _) = _; go_simp; (try go_bits); with_reducible rfl); (first | show wpD _ _ _ _ (Act.put _ (some _) _) _ | show wpD _ _ _ _ (Act.put _ none _) _); (simp only [Act.put, sA, sZ, sS])))))
        go_roundw
        case rel => exact ⟨u + 1, t, ia + 1, j, by go_num, rfl, by omega, hj, by omega, htR, Hlo, hhi, hS⟩
        case measure => simp [intOf]; omega
      · have Hhi : Hid (∀ q (h : q < L.length), u ≤ q → lt y L[q] = true) := Lib.hid (fun q h h2 => le_lt_lt hpre hc (srt_get hpre HR.out h2 h))
        have Hlt := Lib.hid hc
        clear hc
        generalize L[u] = z at Ha Dx Hlt
        have Dz := Dx
        go_wp2_with (first | ((with_reducible show Code.wp _ (Code.region 17 _ true) _ _ _); refine wp_region_drawn [(0, 0), (1, 0), (2, 0), (3, 0), (4, 1), (5, 0), (6, 0), (7, 0), (8, 1), (9, 2), (10, 0), (11, 0)] (by kernel_rfl) (by kernel_rfl) (by intro _ _ dq _ _ hq; cases dq <;> exact hq) ?_; replace hS := hS.mod (Mod.drew (Mod.refl _ _)); (generalize hwd : World.drew _ = wz at hS ⊢); clear hwd) | ((with_reducible show wpD _ _ _ ((_, 1) :: _) _ _); (first | refine D_load rfl rfl (fun x hx => f_loadRow (g := g) (off := off) (k := ia) (n := N) (c := c) (hS.mod hx) rfl rfl Ha.out) ?_ | refine D_load rfl rfl (fun x hx => f_loadRow (g := g) (off := off) (k := ib) (n := N) (c := c) (hS.mod hx) rfl rfl Hb.out) ?_); (first | show wpD _ _ _ _ (Act.put _ (some _) _) _ | show wpD _ _ _ _ (Act.put _ none _) _); (simp only [Act.put, sA, sZ, sS])) | ((with_reducible show wpD _ _ _ ((_, 2) :: _) _ _); (refine D_call (f := 164) (args := ?_) rfl rfl ?_ ?_); rotate_left 1; (show (Sem.run _ (execOp _ (Oper.mk _ _ _ _ _ _)) _) = _; go_simp; rfl); refine (hcmp _ _ hS y z Dy.out Dz.out).mono ?_; rintro e wy ⟨⟨r, rfl, hr⟩, hM⟩; (rw [Hlt.out] at hr); replace hS := hS.mod hM; refine ⟨_, rfl, hM, ?_⟩; clear hM; (first | show wpD _ _ _ _ (Act.put _ (some _) _) _ | show wpD _ _ _ _ (Act.put _ none _) _); (simp only [Act.put, sA, sZ, sS])) | ((with_reducible show wpD _ _ _ [] _ _); refine D_nil ?_) | ((with_reducible show wpD _ _ _ ((_, 0) :: _) _ _); (first | (refine D_skip rfl rfl ?_; (first | show wpD _ _ _ _ (Act.put _ (some _) _) _ | show wpD _ _ _ _ (Act.put _ none _) _); (simp only [Act.put, sA, sZ, sS])) | (refine D_pure (v := ?_) rfl rfl (fun wq => ?_) ?_; rotate_left 1; (show (Sem.run _ (execOp _ (Oper.mk _ _ _ _ _ _)) _) = _; go_simp; (try go_bits); with_reducible rfl); (first | show wpD _ _ _ _ (Act.put _ (some _) _) _ | show wpD _ _ _ _ (Act.put _ none _) _); (simp only [Act.put, sA, sZ, sS])))))
        go_roundw
        case rel => exact ⟨s, u, i, ia, rfl, rfl, hi, hu, hus.1, by omega, hlo, Hhi, hS⟩
        case measure => simp [intOf]; omega
    · obtain rfl : t = s := by omega
      have HY : Hid (Srt (leOf lt) (L.take t ++ y :: L.drop t)) := Lib.hid (insert_ok (by rw [List.take_append_drop]; exact HR.out)
        (fun z hz => by
          obtain ⟨q, hq, rfl⟩ := List.mem_iff_getElem.1 hz
          rw [List.length_take] at hq
          rw [List.getElem_take]
          exact hlo.out q (by omega) (by omega))
        (fun z hz => by
          obtain ⟨q, hq, rfl⟩ := List.mem_iff_getElem.1 hz
          rw [List.length_drop] at hq
          rw [List.getElem_drop]
          exact lt_le hpre (hhi.out (t + q) (by omega) (by omega))))
      have HP : Hid ((L.take t ++ y :: L.drop t).Perm (L ++ [y])) := Lib.hid (by
        refine (List.perm_middle).trans ?_
        rw [List.take_append_drop]
        exact List.perm_append_comm (l₁ := [y]))
      have HE : Hid (pasR pre y L post t = pre ++ (L.take t ++ y :: L.drop t) ++ post) := Lib.hid (by simp only [pasR, List.append_assoc, List.cons_append])
      rw [E0.out] at hS
      clear hlo hhi
      go_wp2_with (first | ((with_reducible show wpList _ _ _ (⟨_, Op.load _ _, _, _, _, _⟩ :: _) _ _); (first | refine Gives.list (f_load hS rfl rfl (by rfl)) rfl ?_ | refine Gives.list (f_loadS hS rfl rfl (by rfl)) rfl ?_ | refine Gives.list (f_loadAt hS rfl rfl) rfl ?_ | refine Gives.list (f_loadAtS hS rfl rfl (by rfl)) rfl ?_ | refine Gives.list (f_loadAtF hS rfl rfl (by rfl)) rfl ?_); (simp only [Act.put, sA, sZ, sS])))
      go_loopw [17] (fun kv wr => ∃ r k : Nat, kv = .int .i64 (k : Int) ∧ a + r = k ∧ t ≤ r ∧ r ≤ L.length ∧ Sat w0 wr (.own Rep.int.rows [.slice (some ⟨g, off, none⟩) N c] (pasR pre y L post r) :: Γ)) (fun kv _ => (intOf kv).toNat)
      case atStart => exact ⟨L.length, m, by rw [hib0], hm, by omega, Nat.le_refl _, hS⟩
      case round =>
        clear hS
        obtain ⟨r, k, rfl, hk, htr, hrL, hS⟩ := hrel
        by_cases hlt2 : t < r
        · obtain ⟨r', rfl⟩ : ∃ r', r = r' + 1 := ⟨r - 1, by omega⟩
          have hkI : (i : Int) < (k : Int) := by omega
          have hrR : r' < L.length := by omega
          have Hx := pasR_a (x := y) (R := L) (post := post) ha hrL
          have Hy := pasR_c (x := y) (post := post) ha hrR
          have Hs := pasR_pred (x := y) (post := post) ha hrR
          obtain ⟨ia, hia0⟩ : ∃ i, a + (r' + 1) = i := ⟨_, rfl⟩
          obtain ⟨ib, hib1⟩ : ∃ i, a + r' = i := ⟨_, rfl⟩
          rw [hia0] at Hx Hs
          rw [hib1] at Hy Hs
          have hia : ia < N := by omega
          have hib : ib < N := by omega
          have hiaI : (ia : Int) < (N : Int) := by omega
          have hibI : (ib : Int) < (N : Int) := by omega
          obtain rfl : ia = k := by omega
          have hw7 : IntKind.i64.wrap ((ia : Int) - 1) = (ib : Int) := by rw [IntWalk.i64_in _ (by omega)]; omega
          obtain ⟨⟨_, _, _, _, _, Ix⟩, _⟩ := hS.rowCell (e := Rep.int) 0 rfl rfl Hx
          obtain ⟨⟨_, _, _, _, _, Iy⟩, _⟩ := hS.rowCell (e := Rep.int) 0 rfl rfl Hy
          obtain ⟨z, hz⟩ : ∃ z, L[r'] = z := ⟨_, rfl⟩
          obtain ⟨Y, hY⟩ : ∃ Y, pasR pre y L post (r' + 1) = Y := ⟨_, rfl⟩
          rw [hz] at Hy Hs Iy
          rw [hY] at Hx Hy Hs hS
          have Ix := Lib.hid Ix
          have Iy := Lib.hid Iy
          have Ha := Lib.hid Hx
          have Hb := Lib.hid Hy
          have Hs := Lib.hid Hs
          clear hz hY Hx Hy
          go_wp2_with (first | ((with_reducible show Code.wp _ (Code.region 23 _ true) _ _ _); refine wp_region_drawn [(0, 0), (1, 0), (2, 0), (3, 0), (4, 0), (5, 0), (6, 0), (7, 0), (8, 0), (9, 1), (10, 0), (11, 0), (12, 0), (13, 1), (14, 0), (15, 3), (16, 0), (17, 3)] (by kernel_rfl) (by kernel_rfl) (by intro _ _ dq _ _ hq; cases dq <;> exact hq) ?_; replace hS := hS.mod (Mod.drew (Mod.refl _ _)); (generalize hwd : World.drew _ = wz at hS ⊢); clear hwd) | ((with_reducible show wpD _ _ _ ((_, 1) :: _) _ _); (first | refine D_load rfl rfl (fun x hx => f_loadRow (g := g) (off := off) (k := ia) (n := N) (c := c) (hS.mod hx) rfl rfl Ha.out) ?_ | refine D_load rfl rfl (fun x hx => f_loadRow (g := g) (off := off) (k := ib) (n := N) (c := c) (hS.mod hx) rfl rfl Hb.out) ?_); (first | show wpD _ _ _ _ (Act.put _ (some _) _) _ | show wpD _ _ _ _ (Act.put _ none _) _); (simp only [Act.put, sA, sZ, sS])) | ((with_reducible show wpD _ _ _ ((_, 3) :: _) _ _); (first | refine D_loud rfl rfl (does_storeEl (e := Rep.int) (k := ia) 0 (hS.int Iy.out) rfl rfl rfl rfl rfl rfl hia) ?_ | refine D_loud rfl rfl (does_storeEl (e := Rep.int) (k := ib) 0 (hS.int Ix.out) rfl rfl rfl rfl rfl rfl hib) ?_); clear hS; rintro _ wx ⟨rfl, hS⟩; (simp only [sZ, sS] at hS); (first | show wpD _ _ _ _ (Act.put _ (some _) _) _ | show wpD _ _ _ _ (Act.put _ none _) _); (simp only [Act.put, sA, sZ, sS])) | ((with_reducible show wpD _ _ _ [] _ _); refine D_nil ?_) | ((with_reducible show wpD _ _ _ ((_, 0) :: _) _ _); (first | (refine D_skip rfl rfl ?_; (first | show wpD _ _ _ _ (Act.put _ (some _) _) _ | show wpD _ _ _ _ (Act.put _ none _) _); (simp only [Act.put, sA, sZ, sS])) | (refine D_pure (v := ?_) rfl rfl (fun wq => ?_) ?_; rotate_left 1; (show (Sem.run _ (execOp _ (Oper.mk _ _ _ _ _ _)) _) = _; go_simp; (try go_bits); with_reducible rfl); (first | show wpD _ _ _ _ (Act.put _ (some _) _) _ | show wpD _ _ _ _ (Act.put _ none _) _); (simp only [Act.put, sA, sZ, sS])))))
          go_roundw
          case rel => exact ⟨r', ib, by go_num, hib1, by omega, by omega, by rw [← Hs.out]; exact hS⟩
          case measure => simp [intOf]; omega
        · obtain rfl : r = t := by omega
          have hkI : ¬ (i : Int) < (k : Int) := by omega
          rw [HE.out] at hS
          go_wp2_with (first | ((with_reducible show wpList _ _ _ (⟨_, Op.load _ _, _, _, _, _⟩ :: _) _ _); (first | refine Gives.list (f_load hS rfl rfl (by rfl)) rfl ?_ | refine Gives.list (f_loadS hS rfl rfl (by rfl)) rfl ?_ | refine Gives.list (f_loadAt hS rfl rfl) rfl ?_ | refine Gives.list (f_loadAtS hS rfl rfl (by rfl)) rfl ?_ | refine Gives.list (f_loadAtF hS rfl rfl (by rfl)) rfl ?_); (simp only [Act.put, sA, sZ, sS])))
          (try simp only [Exit.inBlock, Exit.then])
          (first | refine bodyPost_ret (results_none rfl _ _ _) rfl ?_ | refine bodyPost_end (results_none rfl _ _ _) rfl ?_)
          exact ⟨rfl, _, HP.out, HY.out, by simpa only [List.append_assoc, List.cons_append] using hS⟩
end Go.Proofs.YtldknaajnnohiaaDoor
end
