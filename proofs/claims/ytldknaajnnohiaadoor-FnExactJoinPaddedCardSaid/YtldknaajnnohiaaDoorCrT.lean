/- JoinPadded: the plain laws. -/
import Derived.Test.YtldknaajnnohiaaDoorReR
import Derived.Test.YtldknaajnnohiaaDoorPass
import Derived.Test.YtldknaajnnohiaaDoorSho
import Derived.Test.YtldknaajnnohiaaDoorCutP
import Derived.Test.YtldknaajnnohiaaDoorSrL
section
namespace Go.Proofs.YtldknaajnnohiaaDoor
open Go.RowKit

/-- The row of a pair of rows. -/
def jPair (N l r : Nat) (x y : RowB) : RowB := if x.2 && (y.2 && decide (x.1.getD l 0 = y.1.getD r 0)) then (x.1 ++ y.1, true) else (List.replicate N 0, false)
def jZ (N l r : Nat) (X Y : List RowB) : List RowB := X.flatMap (fun x => Y.map (jPair N l r x))
section
variable {N l r n m : Nat} {X Y : List RowB} {i k : Nat}
theorem jPair_t {a b : List Int} (h : a.getD l 0 = b.getD r 0) : jPair N l r (a, true) (b, true) = (a ++ b, true) := by unfold jPair; rw [if_pos (by simp only [Bool.true_and]; exact decide_eq_true h)]
theorem jPair_n {a b : List Int} {p q : Bool} (h : a.getD l 0 ≠ b.getD r 0) : jPair N l r (a, p) (b, q) = (List.replicate N 0, false) := by unfold jPair; rw [if_neg (by dsimp only; rw [decide_eq_false h]; simp)]
theorem jPair_a {a : List Int} {y : RowB} : jPair N l r (a, false) y = (List.replicate N 0, false) := by unfold jPair; rfl
theorem jPair_b {b : List Int} {x : RowB} : jPair N l r x (b, false) = (List.replicate N 0, false) := by unfold jPair; rw [if_neg (by simp)]
theorem jZ_succ (h : i < X.length) : jZ N l r (X.take i) Y ++ Y.map (jPair N l r X[i]) = jZ N l r (X.take (i + 1)) Y := by
  unfold jZ; rw [List.take_succ_eq_append_getElem h, List.flatMap_append]; simp
theorem jZ_len : (jZ N l r X Y).length = X.length * Y.length := by
  induction X with
  | nil => simp [jZ]
  | cons x X ih =>
    show (Y.map (jPair N l r x) ++ jZ N l r X Y).length = _
    rw [List.length_append, List.length_map, ih, List.length_cons, Nat.succ_mul, Nat.add_comm]
theorem rowOkZ_blank : rowOkZ n (List.replicate n 0, false) = true := by
  unfold rowOkZ padRow
  simp only [List.length_replicate, decide_true, Bool.true_and, Bool.not_eq_true', List.any_eq_false]
  intro x hx
  obtain ⟨-, rfl⟩ := List.mem_replicate.1 hx
  decide
theorem jPair_ok {x y : RowB} (hx : rowOkZ n x = true) (hy : rowOkZ m y = true) : rowOkZ (n + m) (jPair (n + m) l r x y) = true := by
  unfold jPair
  split
  · rename_i h
    simp only [Bool.and_eq_true] at h
    unfold rowOkZ padRow at hx hy ⊢
    rw [h.1] at hx
    rw [h.2.1] at hy
    simp only [Bool.and_eq_true, decide_eq_true_eq, Bool.not_eq_true'] at hx hy
    simp only [List.length_append, List.any_append, hx.1, hy.1, hx.2, hy.2]
    simp
  · exact rowOkZ_blank
theorem jZ_ok (hX : ∀ a ∈ X, rowOkZ n a = true) (hY : ∀ a ∈ Y, rowOkZ m a = true) : ∀ a ∈ jZ (n + m) l r X Y, rowOkZ (n + m) a = true := by
  intro a ha
  unfold jZ at ha
  obtain ⟨x, hx, ha⟩ := List.mem_flatMap.1 ha
  obtain ⟨y, hy, rfl⟩ := List.mem_map.1 ha
  exact jPair_ok (hX x hx) (hY y hy)
end
/-- The rows of all pairs. -/
def jAll (a b : PaddedD) (left right : ByteArray) : PaddedD :=
  (a.1 ++ b.1, (jZ (a.1.length + b.1.length) (colOf a.1 left).toNat (colOf b.1 right).toNat (a.2.1.zip a.2.2) (b.2.1.zip b.2.2)).map Prod.fst,
    (jZ (a.1.length + b.1.length) (colOf a.1 left).toNat (colOf b.1 right).toNat (a.2.1.zip a.2.2) (b.2.1.zip b.2.2)).map Prod.snd)
def crossOf (m i k : Nat) : List AccessD := [(0, (i : Int), false), (1, (k : Int), false), (2, (i : Int) * (m : Int) + (k : Int), true)]
def crossRow (m i n : Nat) : List AccessD := (List.range n).flatMap (crossOf m i)
def crossF (n m : Nat) : List AccessD := (List.range n).flatMap (fun i => crossRow m i m)
theorem crossRow_succ {m i k : Nat} : crossRow m i k ++ crossOf m i k = crossRow m i (k + 1) := by unfold crossRow; rw [List.range_succ, List.flatMap_append]; simp
theorem crossF_succ {m i : Nat} : (List.range i).flatMap (fun i => crossRow m i m) ++ crossRow m i m = (List.range (i + 1)).flatMap (fun i => crossRow m i m) := by rw [List.range_succ, List.flatMap_append]; simp
theorem crossRow_len {m i k : Nat} : (crossRow m i k).length = 3 * k := by
  induction k with
  | zero => rfl
  | succ n ih => rw [← crossRow_succ, List.length_append, ih]; show 3 * n + 3 = _; omega
theorem crossF_len {n m : Nat} : (crossF n m).length = 3 * (n * m) := by
  unfold crossF
  induction n with
  | zero => simp
  | succ n ih => rw [← crossF_succ, List.length_append, ih, crossRow_len, show (n + 1) * m = n * m + m from Nat.succ_mul n m]; omega
def noS : ByteArray := ByteArray.empty
/-- What JoinPadded asks of its arguments. -/
def jOk (a b : PaddedD) (left right : ByteArray) : Bool := paddedOk a && (paddedOk b && (decide (a.2.1.length ≤ 16) && (decide (b.2.1.length ≤ 16) && (namesOk (a.1 ++ b.1) && (hasS a.1 left && hasS b.1 right)))))
def jSort (a b : PaddedD) (left right : ByteArray) : PaddedD := sortP (colOf (a.1 ++ b.1) noS) false (jAll a b left right)
/-- What JoinPadded returns. -/
def joinF (a b : PaddedD) (left right : ByteArray) (size : Int) : PaddedD × List AccessD × Bool :=
  if jOk a b left right && (cutF (jSort a b left right) size).2 then ((cutF (jSort a b left right) size).1, crossF a.2.1.length b.2.1.length ++ pairF (netF (a.2.1.length * b.2.1.length)), true) else (zeroP, [], false)
theorem joinF_f {a b : PaddedD} {left right : ByteArray} {size : Int} (h : jOk a b left right = false) : joinF a b left right size = (zeroP, [], false) := by unfold joinF; rw [h]; rfl
theorem joinF_c {a b : PaddedD} {left right : ByteArray} {size : Int} (h : (cutF (jSort a b left right) size).2 = false) : joinF a b left right size = (zeroP, [], false) := by unfold joinF; rw [h]; simp
theorem joinF_t {a b : PaddedD} {left right : ByteArray} {size : Int} {q : PaddedD} (h : jOk a b left right = true) (h2 : cutF (jSort a b left right) size = (q, true)) : joinF a b left right size = (q, crossF a.2.1.length b.2.1.length ++ pairF (netF (a.2.1.length * b.2.1.length)), true) := by
  unfold joinF; rw [h, h2]; rfl
theorem jAll_ok {a b : PaddedD} {left right : ByteArray} (h : jOk a b left right = true) : paddedOk (jAll a b left right) = true ∧ (jAll a b left right).2.1.length = a.2.1.length * b.2.1.length := by
  unfold jOk at h
  simp only [Bool.and_eq_true, decide_eq_true_eq] at h
  obtain ⟨h1, h2, h3, h4, h5, -, -⟩ := h
  obtain ⟨ns, R, M⟩ := a
  obtain ⟨ms, S, L⟩ := b
  dsimp only at h1 h2 h3 h4 h5
  obtain ⟨-, -, k3, -⟩ := paddedOk_all4 h1
  obtain ⟨-, -, l3, -⟩ := paddedOk_all4 h2
  have hl : (jZ (ns.length + ms.length) (colOf ns left).toNat (colOf ms right).toNat (R.zip M) (S.zip L)).length = R.length * S.length := by
    rw [jZ_len, List.length_zip, List.length_zip, k3, l3, Nat.min_self, Nat.min_self]
  refine ⟨?_, by unfold jAll; dsimp only; rw [List.length_map, hl]⟩
  unfold jAll
  dsimp only
  refine padded_of_zip h5 ?_ ?_
  · rw [hl]; exact Nat.le_trans (Nat.mul_le_mul h3 h4) (by decide)
  · rw [List.length_append]; exact jZ_ok (padded_zip h1) (padded_zip h2)
end Go.Proofs.YtldknaajnnohiaaDoor
end

section
namespace Go.Proofs.YtldknaajnnohiaaDoor
open Go.RowKit

theorem crossOf_all (w : World) (m i k : Nat) (hm : m ≤ 16) (hi : i ≤ 16) (hk : k ≤ 16) : (rAccess.vec 3).has w [] [.int .i64 0, .int .i64 (i : Int), .bool false, .int .i64 1, .int .i64 (k : Int), .bool false, .int .i64 2, .int .i64 ((i : Int) * (m : Int) + (k : Int)), .bool true] (crossOf m i k) := by
  have h : i * m ≤ 16 * 16 := Nat.mul_le_mul hi hm
  have h2 : (i : Int) * (m : Int) = ((i * m : Nat) : Int) := by simp
  exact ⟨rfl, [], [], [_, _, _], _, rfl, rfl, rAccess_mk (by unfold I64; omega) (by unfold I64; omega), [], [], [_, _, _], _, rfl, rfl, rAccess_mk (by unfold I64; omega) (by unfold I64; omega), [], [], [_, _, _], _, rfl, rfl, rAccess_mk (by unfold I64; omega) (by unfold I64; rw [h2]; omega), rfl, rfl⟩
theorem mul16 {i m : Nat} (hi : i ≤ 16) (hm : m ≤ 16) : 0 ≤ (i : Int) * (m : Int) ∧ (i : Int) * (m : Int) ≤ 256 := by
  have h : i * m ≤ 16 * 16 := Nat.mul_le_mul hi hm
  have h2 : (i : Int) * (m : Int) = ((i * m : Nat) : Int) := by simp
  rw [h2]; omega
set_option maxHeartbeats 4000000 in
theorem impl_CrossTrace (w : World) (n m : Nat) (hn : n ≤ 16) (hm : m ≤ 16) :
    Calls Tryd.prog 129 #[.int .i64 (n : Int), .int .i64 (m : Int)] w fun e w' => ∃ v, e = .returned v ∧ Fresh rAccess.rows w w' [v] (crossF n m) := by
  have h2 : inB (n : Int) 0 16 = true := inB_true (by omega)
  have h3 : inB (m : Int) 0 16 = true := inB_true (by omega)
  have hS : Sat w w [] := Sat.nil w
  go_enter Tryd.func129, Tryd.ntmps129
  go_wp2_with (first | (go_at_call 95; refine (impl_in _ _ _ _).mono ?_; rintro e w' ⟨rfl, rfl⟩; (simp only [h2, h3])) | ((with_reducible show wpList _ _ _ (⟨_, Op.box _ _, _, _, _, _⟩ :: _) _ _); refine Does.list (does_box hS rfl rfl (by rfl)) rfl ?_; clear hS; rintro _ wx ⟨bo, rfl, hS, _⟩; (simp only [Act.put, sA, sZ, sS])) | ((with_reducible show wpList _ _ _ (⟨_, Op.load _ _, _, _, _, _⟩ :: _) _ _); (first | refine Gives.list (f_load hS rfl rfl (by rfl)) rfl ?_ | refine Gives.list (f_loadS hS rfl rfl (by rfl)) rfl ?_ | refine Gives.list (f_loadAt hS rfl rfl) rfl ?_ | refine Gives.list (f_loadAtS hS rfl rfl (by rfl)) rfl ?_ | refine Gives.list (f_loadAtF hS rfl rfl (by rfl)) rfl ?_); (simp only [Act.put, sA, sZ, sS])) | ((with_reducible show wpList _ _ _ (⟨_, Op.store _ _ _, _, _, _, _⟩ :: _) _ _); (first | refine Does.list (f_store hS rfl rfl rfl (by rfl) (by rfl)) rfl ?_ | refine Does.list (f_storeS hS rfl rfl rfl (by rfl) (by rfl) (by rfl)) rfl ?_); clear hS; rintro _ wx ⟨rfl, hS⟩; (simp only [sZ, sS] at hS); (simp only [Act.put, sA, sZ, sS])) | ((with_reducible show wpList _ _ _ (⟨_, Op.alloc _, _, _, _, _⟩ :: _) _ _); refine Does.list (does_alloc hS rfl (by rfl)) rfl ?_; clear hS; rintro _ wx ⟨ba, rfl, hS, _⟩; (simp only [Act.put, sA, sZ, sS])) | ((with_reducible show wpList _ _ _ (⟨_, Op.buildSlice _ _ _, _, _, _, _⟩ :: _) _ _); refine Does.list (does_buildSlice (X := ?_) (cs := ?_) (E := ?_) hS rfl ?_ ?_) rfl ?_; rotate_left 3; (go_simp; rfl); rfl; clear hS; rintro _ wx ⟨bx, rfl, hS, _⟩; (simp only [Act.put, sA, sZ, sS])))
  replace hS := Sat.nilRow rAccess hS
  go_loopw [5, 17] (fun s i wr => ∃ (a q : Nat) (B : Option Addr) (d : Nat), i = .int .i64 a ∧ s = .slice B q d ∧ q = 3 * (a * m) ∧ a ≤ n ∧ Sat w wr [.own rAccess.rows [.slice B q d] ((List.range a).flatMap (fun i => crossRow m i m))]) (fun _ i _ => n - (intOf i).toNat)
  case atStart => exact ⟨0, 0, none, 0, rfl, rfl, by simp, Nat.zero_le _, hS⟩
  case round =>
    clear hS
    obtain ⟨i, q, B, d, rfl, rfl, hq, hi, hS⟩ := hrel
    by_cases hlt : i < n
    · have hltI : (i : Int) < (n : Int) := by omega
      obtain ⟨b0, b1⟩ := mul16 (i := i) (m := m) (by omega) hm
      have hqb : q ≤ 768 := by
        have h : i * m ≤ 16 * 16 := Nat.mul_le_mul (by omega) hm
        omega
      have Hq := Lib.hid hq
      have H1 := Lib.hid (crossF_succ (m := m) (i := i))
      obtain ⟨P, hP⟩ : ∃ P, (List.range i).flatMap (fun i => crossRow m i m) = P := ⟨_, rfl⟩
      rw [hP] at hS
      have HP := Lib.hid hP
      clear hq hP
      go_wp2_with (first | ((with_reducible show wpList _ _ _ (⟨_, Op.box _ _, _, _, _, _⟩ :: _) _ _); refine Does.list (does_box hS rfl rfl (by rfl)) rfl ?_; clear hS; rintro _ wx ⟨bo, rfl, hS, _⟩; (simp only [Act.put, sA, sZ, sS])) | ((with_reducible show wpList _ _ _ (⟨_, Op.load _ _, _, _, _, _⟩ :: _) _ _); (first | refine Gives.list (f_load hS rfl rfl (by rfl)) rfl ?_ | refine Gives.list (f_loadS hS rfl rfl (by rfl)) rfl ?_ | refine Gives.list (f_loadAt hS rfl rfl) rfl ?_ | refine Gives.list (f_loadAtS hS rfl rfl (by rfl)) rfl ?_ | refine Gives.list (f_loadAtF hS rfl rfl (by rfl)) rfl ?_); (simp only [Act.put, sA, sZ, sS])) | ((with_reducible show wpList _ _ _ (⟨_, Op.store _ _ _, _, _, _, _⟩ :: _) _ _); (first | refine Does.list (f_store hS rfl rfl rfl (by rfl) (by rfl)) rfl ?_ | refine Does.list (f_storeS hS rfl rfl rfl (by rfl) (by rfl) (by rfl)) rfl ?_); clear hS; rintro _ wx ⟨rfl, hS⟩; (simp only [sZ, sS] at hS); (simp only [Act.put, sA, sZ, sS])) | ((with_reducible show wpList _ _ _ (⟨_, Op.alloc _, _, _, _, _⟩ :: _) _ _); refine Does.list (does_alloc hS rfl (by rfl)) rfl ?_; clear hS; rintro _ wx ⟨ba, rfl, hS, _⟩; (simp only [Act.put, sA, sZ, sS])) | ((with_reducible show wpList _ _ _ (⟨_, Op.buildSlice _ _ _, _, _, _, _⟩ :: _) _ _); refine Does.list (does_buildSlice (X := ?_) (cs := ?_) (E := ?_) hS rfl ?_ ?_) rfl ?_; rotate_left 3; (go_simp; rfl); rfl; clear hS; rintro _ wx ⟨bx, rfl, hS, _⟩; (simp only [Act.put, sA, sZ, sS])))
      go_loopw [5, 21] (fun s j wr => ∃ (k r : Nat) (B : Option Addr) (d : Nat), j = .int .i64 k ∧ s = .slice B r d ∧ r = q + 3 * k ∧ k ≤ m ∧ Sat w wr [.own rAccess.rows [.slice B r d] (P ++ crossRow m i k)]) (fun _ j _ => m - (intOf j).toNat)
      case atStart => exact ⟨0, q, B, d, rfl, rfl, rfl, Nat.zero_le _, by rw [show crossRow m i 0 = [] from rfl, List.append_nil]; exact hS⟩
      case round =>
        clear hS
        obtain ⟨k, r, B, d, rfl, rfl, hr, hk, hS⟩ := hrel
        have hrb : r ≤ 900 := by omega
        have Hr := Lib.hid hr
        clear hr
        by_cases hlk : k < m
        · have hlkI : (k : Int) < (m : Int) := by omega
          have hw1 : IntKind.i64.wrap ((i : Int) * (m : Int)) = (i : Int) * (m : Int) := IntWalk.i64_in _ (by omega)
          have hw2 : IntKind.i64.wrap ((i : Int) * (m : Int) + (k : Int)) = (i : Int) * (m : Int) + (k : Int) := IntWalk.i64_in _ (by omega)
          have H2 : Hid (P ++ crossRow m i k ++ crossOf m i k = P ++ crossRow m i (k + 1)) := Lib.hid (by rw [List.append_assoc, crossRow_succ])
          go_wp2_with (first | ((with_reducible show wpList _ _ _ (⟨_, Op.call { callee := Callee.builtin Builtin.append, args := _, argTypes := _ }, _, _, _, _⟩ :: _) _ _); refine Does.list (f_append rAccess (hS.flat (crossOf_all _ m i k hm (by omega) (by omega))) rfl rfl rfl rfl rfl (by decide) (by omega)) rfl ?_; clear hS; rintro _ wx ⟨A2, c2, rfl, hS⟩; (simp only [sZ, sS] at hS); (simp only [Act.put, sA, sZ, sS])) | ((with_reducible show wpList _ _ _ (⟨_, Op.box _ _, _, _, _, _⟩ :: _) _ _); refine Does.list (does_box hS rfl rfl (by rfl)) rfl ?_; clear hS; rintro _ wx ⟨bo, rfl, hS, _⟩; (simp only [Act.put, sA, sZ, sS])) | ((with_reducible show wpList _ _ _ (⟨_, Op.load _ _, _, _, _, _⟩ :: _) _ _); (first | refine Gives.list (f_load hS rfl rfl (by rfl)) rfl ?_ | refine Gives.list (f_loadS hS rfl rfl (by rfl)) rfl ?_ | refine Gives.list (f_loadAt hS rfl rfl) rfl ?_ | refine Gives.list (f_loadAtS hS rfl rfl (by rfl)) rfl ?_ | refine Gives.list (f_loadAtF hS rfl rfl (by rfl)) rfl ?_); (simp only [Act.put, sA, sZ, sS])) | ((with_reducible show wpList _ _ _ (⟨_, Op.store _ _ _, _, _, _, _⟩ :: _) _ _); (first | refine Does.list (f_store hS rfl rfl rfl (by rfl) (by rfl)) rfl ?_ | refine Does.list (f_storeS hS rfl rfl rfl (by rfl) (by rfl) (by rfl)) rfl ?_); clear hS; rintro _ wx ⟨rfl, hS⟩; (simp only [sZ, sS] at hS); (simp only [Act.put, sA, sZ, sS])) | ((with_reducible show wpList _ _ _ (⟨_, Op.alloc _, _, _, _, _⟩ :: _) _ _); refine Does.list (does_alloc hS rfl (by rfl)) rfl ?_; clear hS; rintro _ wx ⟨ba, rfl, hS, _⟩; (simp only [Act.put, sA, sZ, sS])) | ((with_reducible show wpList _ _ _ (⟨_, Op.buildSlice _ _ _, _, _, _, _⟩ :: _) _ _); refine Does.list (does_buildSlice (X := ?_) (cs := ?_) (E := ?_) hS rfl ?_ ?_) rfl ?_; rotate_left 3; (go_simp; rfl); rfl; clear hS; rintro _ wx ⟨bx, rfl, hS, _⟩; (simp only [Act.put, sA, sZ, sS])))
          go_roundw
          case rel => exact ⟨k + 1, r + 3, A2, c2, by go_num, rfl, by have := Hr.out; omega, hlk, by rw [← H2.out]; exact hS.sel [0] rfl (by decide)⟩
          case measure => simp [intOf]; omega
        · obtain rfl : k = m := by omega
          go_wp2_with (first | ((with_reducible show wpList _ _ _ (⟨_, Op.box _ _, _, _, _, _⟩ :: _) _ _); refine Does.list (does_box hS rfl rfl (by rfl)) rfl ?_; clear hS; rintro _ wx ⟨bo, rfl, hS, _⟩; (simp only [Act.put, sA, sZ, sS])) | ((with_reducible show wpList _ _ _ (⟨_, Op.load _ _, _, _, _, _⟩ :: _) _ _); (first | refine Gives.list (f_load hS rfl rfl (by rfl)) rfl ?_ | refine Gives.list (f_loadS hS rfl rfl (by rfl)) rfl ?_ | refine Gives.list (f_loadAt hS rfl rfl) rfl ?_ | refine Gives.list (f_loadAtS hS rfl rfl (by rfl)) rfl ?_ | refine Gives.list (f_loadAtF hS rfl rfl (by rfl)) rfl ?_); (simp only [Act.put, sA, sZ, sS])) | ((with_reducible show wpList _ _ _ (⟨_, Op.store _ _ _, _, _, _, _⟩ :: _) _ _); (first | refine Does.list (f_store hS rfl rfl rfl (by rfl) (by rfl)) rfl ?_ | refine Does.list (f_storeS hS rfl rfl rfl (by rfl) (by rfl) (by rfl)) rfl ?_); clear hS; rintro _ wx ⟨rfl, hS⟩; (simp only [sZ, sS] at hS); (simp only [Act.put, sA, sZ, sS])) | ((with_reducible show wpList _ _ _ (⟨_, Op.alloc _, _, _, _, _⟩ :: _) _ _); refine Does.list (does_alloc hS rfl (by rfl)) rfl ?_; clear hS; rintro _ wx ⟨ba, rfl, hS, _⟩; (simp only [Act.put, sA, sZ, sS])) | ((with_reducible show wpList _ _ _ (⟨_, Op.buildSlice _ _ _, _, _, _, _⟩ :: _) _ _); refine Does.list (does_buildSlice (X := ?_) (cs := ?_) (E := ?_) hS rfl ?_ ?_) rfl ?_; rotate_left 3; (go_simp; rfl); rfl; clear hS; rintro _ wx ⟨bx, rfl, hS, _⟩; (simp only [Act.put, sA, sZ, sS])))
          go_roundw
          case rel => exact ⟨i + 1, r, B, d, by go_num, rfl, by rw [Hr.out, Hq.out, show (i + 1) * k = i * k + k from Nat.succ_mul i k]; omega, hlt, by rw [← H1.out, HP.out]; exact hS.sel [0] rfl (by decide)⟩
          case measure => simp [intOf]; omega
    · obtain rfl : i = n := by omega
      clear hq
      go_wp2_with (first | ((with_reducible show wpList _ _ _ (⟨_, Op.box _ _, _, _, _, _⟩ :: _) _ _); refine Does.list (does_box hS rfl rfl (by rfl)) rfl ?_; clear hS; rintro _ wx ⟨bo, rfl, hS, _⟩; (simp only [Act.put, sA, sZ, sS])) | ((with_reducible show wpList _ _ _ (⟨_, Op.load _ _, _, _, _, _⟩ :: _) _ _); (first | refine Gives.list (f_load hS rfl rfl (by rfl)) rfl ?_ | refine Gives.list (f_loadS hS rfl rfl (by rfl)) rfl ?_ | refine Gives.list (f_loadAt hS rfl rfl) rfl ?_ | refine Gives.list (f_loadAtS hS rfl rfl (by rfl)) rfl ?_ | refine Gives.list (f_loadAtF hS rfl rfl (by rfl)) rfl ?_); (simp only [Act.put, sA, sZ, sS])) | ((with_reducible show wpList _ _ _ (⟨_, Op.store _ _ _, _, _, _, _⟩ :: _) _ _); (first | refine Does.list (f_store hS rfl rfl rfl (by rfl) (by rfl)) rfl ?_ | refine Does.list (f_storeS hS rfl rfl rfl (by rfl) (by rfl) (by rfl)) rfl ?_); clear hS; rintro _ wx ⟨rfl, hS⟩; (simp only [sZ, sS] at hS); (simp only [Act.put, sA, sZ, sS])) | ((with_reducible show wpList _ _ _ (⟨_, Op.alloc _, _, _, _, _⟩ :: _) _ _); refine Does.list (does_alloc hS rfl (by rfl)) rfl ?_; clear hS; rintro _ wx ⟨ba, rfl, hS, _⟩; (simp only [Act.put, sA, sZ, sS])) | ((with_reducible show wpList _ _ _ (⟨_, Op.buildSlice _ _ _, _, _, _, _⟩ :: _) _ _); refine Does.list (does_buildSlice (X := ?_) (cs := ?_) (E := ?_) hS rfl ?_ ?_) rfl ?_; rotate_left 3; (go_simp; rfl); rfl; clear hS; rintro _ wx ⟨bx, rfl, hS, _⟩; (simp only [Act.put, sA, sZ, sS])))
      go_ret
      exact ⟨_, rfl, hS.result⟩
set_option maxHeartbeats 4000000 in
theorem spec_CrossTrace (w : World) (n m : Nat) (hn : n ≤ 16) (hm : m ≤ 16) :
    Calls Tryd.prog 127 #[.int .i64 (n : Int), .int .i64 (m : Int)] w fun e w' => ∃ v, e = .returned v ∧ Fresh rAccess.rows w w' [v] (crossF n m) := by
  have h2 : inB (n : Int) 0 16 = true := inB_true (by omega)
  have h3 : inB (m : Int) 0 16 = true := inB_true (by omega)
  have hS : Sat w w [] := Sat.nil w
  go_enter Tryd.func127, Tryd.ntmps127
  go_wp2_with (first | ((with_reducible show wpList _ _ _ (⟨_, Op.box _ _, _, _, _, _⟩ :: _) _ _); refine Does.list (does_box hS rfl rfl (by rfl)) rfl ?_; clear hS; rintro _ wx ⟨bo, rfl, hS, _⟩; (simp only [Act.put, sA, sZ, sS])) | ((with_reducible show wpList _ _ _ (⟨_, Op.load _ _, _, _, _, _⟩ :: _) _ _); (first | refine Gives.list (f_load hS rfl rfl (by rfl)) rfl ?_ | refine Gives.list (f_loadS hS rfl rfl (by rfl)) rfl ?_ | refine Gives.list (f_loadAt hS rfl rfl) rfl ?_ | refine Gives.list (f_loadAtS hS rfl rfl (by rfl)) rfl ?_ | refine Gives.list (f_loadAtF hS rfl rfl (by rfl)) rfl ?_); (simp only [Act.put, sA, sZ, sS])) | ((with_reducible show wpList _ _ _ (⟨_, Op.store _ _ _, _, _, _, _⟩ :: _) _ _); (first | refine Does.list (f_store hS rfl rfl rfl (by rfl) (by rfl)) rfl ?_ | refine Does.list (f_storeS hS rfl rfl rfl (by rfl) (by rfl) (by rfl)) rfl ?_); clear hS; rintro _ wx ⟨rfl, hS⟩; (simp only [sZ, sS] at hS); (simp only [Act.put, sA, sZ, sS])) | ((with_reducible show wpList _ _ _ (⟨_, Op.alloc _, _, _, _, _⟩ :: _) _ _); refine Does.list (does_alloc hS rfl (by rfl)) rfl ?_; clear hS; rintro _ wx ⟨ba, rfl, hS, _⟩; (simp only [Act.put, sA, sZ, sS])) | ((with_reducible show wpList _ _ _ (⟨_, Op.buildSlice _ _ _, _, _, _, _⟩ :: _) _ _); refine Does.list (does_buildSlice (X := ?_) (cs := ?_) (E := ?_) hS rfl ?_ ?_) rfl ?_; rotate_left 3; (go_simp; rfl); rfl; clear hS; rintro _ wx ⟨bx, rfl, hS, _⟩; (simp only [Act.put, sA, sZ, sS])))
  replace hS := (Sat.vec0 rAccess hS).lit (Nat.zero_le _)
  go_loopw [5, 6] (fun s i wr => ∃ (a q : Nat) (B : Option Addr) (d : Nat), i = .int .i64 a ∧ s = .slice B q d ∧ q = 3 * (a * m) ∧ a ≤ n ∧ Sat w wr [.own rAccess.rows [.slice B q d] ((List.range a).flatMap (fun i => crossRow m i m))]) (fun _ i _ => n - (intOf i).toNat)
  case atStart => exact ⟨0, 0, _, _, rfl, rfl, by simp, Nat.zero_le _, hS⟩
  case round =>
    clear hS
    obtain ⟨i, q, B, d, rfl, rfl, hq, hi, hS⟩ := hrel
    by_cases hlt : i < n
    · have hltI : (i : Int) < (n : Int) := by omega
      obtain ⟨b0, b1⟩ := mul16 (i := i) (m := m) (by omega) hm
      have hqb : q ≤ 768 := by
        have h : i * m ≤ 16 * 16 := Nat.mul_le_mul (by omega) hm
        omega
      have Hq := Lib.hid hq
      have H1 := Lib.hid (crossF_succ (m := m) (i := i))
      obtain ⟨P, hP⟩ : ∃ P, (List.range i).flatMap (fun i => crossRow m i m) = P := ⟨_, rfl⟩
      rw [hP] at hS
      have HP := Lib.hid hP
      clear hq hP
      go_wp2_with (first | (go_at_call 82; refine (spec_in _ _ _ _).mono ?_; rintro e w' ⟨rfl, rfl⟩; (simp only [h2, h3])) | ((with_reducible show wpList _ _ _ (⟨_, Op.box _ _, _, _, _, _⟩ :: _) _ _); refine Does.list (does_box hS rfl rfl (by rfl)) rfl ?_; clear hS; rintro _ wx ⟨bo, rfl, hS, _⟩; (simp only [Act.put, sA, sZ, sS])) | ((with_reducible show wpList _ _ _ (⟨_, Op.load _ _, _, _, _, _⟩ :: _) _ _); (first | refine Gives.list (f_load hS rfl rfl (by rfl)) rfl ?_ | refine Gives.list (f_loadS hS rfl rfl (by rfl)) rfl ?_ | refine Gives.list (f_loadAt hS rfl rfl) rfl ?_ | refine Gives.list (f_loadAtS hS rfl rfl (by rfl)) rfl ?_ | refine Gives.list (f_loadAtF hS rfl rfl (by rfl)) rfl ?_); (simp only [Act.put, sA, sZ, sS])) | ((with_reducible show wpList _ _ _ (⟨_, Op.store _ _ _, _, _, _, _⟩ :: _) _ _); (first | refine Does.list (f_store hS rfl rfl rfl (by rfl) (by rfl)) rfl ?_ | refine Does.list (f_storeS hS rfl rfl rfl (by rfl) (by rfl) (by rfl)) rfl ?_); clear hS; rintro _ wx ⟨rfl, hS⟩; (simp only [sZ, sS] at hS); (simp only [Act.put, sA, sZ, sS])) | ((with_reducible show wpList _ _ _ (⟨_, Op.alloc _, _, _, _, _⟩ :: _) _ _); refine Does.list (does_alloc hS rfl (by rfl)) rfl ?_; clear hS; rintro _ wx ⟨ba, rfl, hS, _⟩; (simp only [Act.put, sA, sZ, sS])) | ((with_reducible show wpList _ _ _ (⟨_, Op.buildSlice _ _ _, _, _, _, _⟩ :: _) _ _); refine Does.list (does_buildSlice (X := ?_) (cs := ?_) (E := ?_) hS rfl ?_ ?_) rfl ?_; rotate_left 3; (go_simp; rfl); rfl; clear hS; rintro _ wx ⟨bx, rfl, hS, _⟩; (simp only [Act.put, sA, sZ, sS])))
      go_loopw [5, 7] (fun s j wr => ∃ (k r : Nat) (B : Option Addr) (d : Nat), j = .int .i64 k ∧ s = .slice B r d ∧ r = q + 3 * k ∧ k ≤ m ∧ Sat w wr [.own rAccess.rows [.slice B r d] (P ++ crossRow m i k)]) (fun _ j _ => m - (intOf j).toNat)
      case atStart => exact ⟨0, q, B, d, rfl, rfl, rfl, Nat.zero_le _, by rw [show crossRow m i 0 = [] from rfl, List.append_nil]; exact hS⟩
      case round =>
        clear hS
        obtain ⟨k, r, B, d, rfl, rfl, hr, hk, hS⟩ := hrel
        have hrb : r ≤ 900 := by omega
        have Hr := Lib.hid hr
        clear hr
        by_cases hlk : k < m
        · have hlkI : (k : Int) < (m : Int) := by omega
          have hw1 : IntKind.i64.wrap ((i : Int) * (m : Int)) = (i : Int) * (m : Int) := IntWalk.i64_in _ (by omega)
          have hw2 : IntKind.i64.wrap ((i : Int) * (m : Int) + (k : Int)) = (i : Int) * (m : Int) + (k : Int) := IntWalk.i64_in _ (by omega)
          have H2 : Hid (P ++ crossRow m i k ++ crossOf m i k = P ++ crossRow m i (k + 1)) := Lib.hid (by rw [List.append_assoc, crossRow_succ])
          go_wp2_with (first | ((with_reducible show wpList _ _ _ (⟨_, Op.call { callee := Callee.builtin Builtin.append, args := _, argTypes := _ }, _, _, _, _⟩ :: _) _ _); refine Does.list (f_append rAccess (hS.flat (crossOf_all _ m i k hm (by omega) (by omega))) rfl rfl rfl rfl rfl (by decide) (by omega)) rfl ?_; clear hS; rintro _ wx ⟨A2, c2, rfl, hS⟩; (simp only [sZ, sS] at hS); (simp only [Act.put, sA, sZ, sS])) | ((with_reducible show wpList _ _ _ (⟨_, Op.box _ _, _, _, _, _⟩ :: _) _ _); refine Does.list (does_box hS rfl rfl (by rfl)) rfl ?_; clear hS; rintro _ wx ⟨bo, rfl, hS, _⟩; (simp only [Act.put, sA, sZ, sS])) | ((with_reducible show wpList _ _ _ (⟨_, Op.load _ _, _, _, _, _⟩ :: _) _ _); (first | refine Gives.list (f_load hS rfl rfl (by rfl)) rfl ?_ | refine Gives.list (f_loadS hS rfl rfl (by rfl)) rfl ?_ | refine Gives.list (f_loadAt hS rfl rfl) rfl ?_ | refine Gives.list (f_loadAtS hS rfl rfl (by rfl)) rfl ?_ | refine Gives.list (f_loadAtF hS rfl rfl (by rfl)) rfl ?_); (simp only [Act.put, sA, sZ, sS])) | ((with_reducible show wpList _ _ _ (⟨_, Op.store _ _ _, _, _, _, _⟩ :: _) _ _); (first | refine Does.list (f_store hS rfl rfl rfl (by rfl) (by rfl)) rfl ?_ | refine Does.list (f_storeS hS rfl rfl rfl (by rfl) (by rfl) (by rfl)) rfl ?_); clear hS; rintro _ wx ⟨rfl, hS⟩; (simp only [sZ, sS] at hS); (simp only [Act.put, sA, sZ, sS])) | ((with_reducible show wpList _ _ _ (⟨_, Op.alloc _, _, _, _, _⟩ :: _) _ _); refine Does.list (does_alloc hS rfl (by rfl)) rfl ?_; clear hS; rintro _ wx ⟨ba, rfl, hS, _⟩; (simp only [Act.put, sA, sZ, sS])) | ((with_reducible show wpList _ _ _ (⟨_, Op.buildSlice _ _ _, _, _, _, _⟩ :: _) _ _); refine Does.list (does_buildSlice (X := ?_) (cs := ?_) (E := ?_) hS rfl ?_ ?_) rfl ?_; rotate_left 3; (go_simp; rfl); rfl; clear hS; rintro _ wx ⟨bx, rfl, hS, _⟩; (simp only [Act.put, sA, sZ, sS])))
          go_roundw
          case rel => exact ⟨k + 1, r + 3, A2, c2, by go_num, rfl, by have := Hr.out; omega, hlk, by rw [← H2.out]; exact hS.sel [0] rfl (by decide)⟩
          case measure => simp [intOf]; omega
        · obtain rfl : k = m := by omega
          go_wp2_with (first | ((with_reducible show wpList _ _ _ (⟨_, Op.box _ _, _, _, _, _⟩ :: _) _ _); refine Does.list (does_box hS rfl rfl (by rfl)) rfl ?_; clear hS; rintro _ wx ⟨bo, rfl, hS, _⟩; (simp only [Act.put, sA, sZ, sS])) | ((with_reducible show wpList _ _ _ (⟨_, Op.load _ _, _, _, _, _⟩ :: _) _ _); (first | refine Gives.list (f_load hS rfl rfl (by rfl)) rfl ?_ | refine Gives.list (f_loadS hS rfl rfl (by rfl)) rfl ?_ | refine Gives.list (f_loadAt hS rfl rfl) rfl ?_ | refine Gives.list (f_loadAtS hS rfl rfl (by rfl)) rfl ?_ | refine Gives.list (f_loadAtF hS rfl rfl (by rfl)) rfl ?_); (simp only [Act.put, sA, sZ, sS])) | ((with_reducible show wpList _ _ _ (⟨_, Op.store _ _ _, _, _, _, _⟩ :: _) _ _); (first | refine Does.list (f_store hS rfl rfl rfl (by rfl) (by rfl)) rfl ?_ | refine Does.list (f_storeS hS rfl rfl rfl (by rfl) (by rfl) (by rfl)) rfl ?_); clear hS; rintro _ wx ⟨rfl, hS⟩; (simp only [sZ, sS] at hS); (simp only [Act.put, sA, sZ, sS])) | ((with_reducible show wpList _ _ _ (⟨_, Op.alloc _, _, _, _, _⟩ :: _) _ _); refine Does.list (does_alloc hS rfl (by rfl)) rfl ?_; clear hS; rintro _ wx ⟨ba, rfl, hS, _⟩; (simp only [Act.put, sA, sZ, sS])) | ((with_reducible show wpList _ _ _ (⟨_, Op.buildSlice _ _ _, _, _, _, _⟩ :: _) _ _); refine Does.list (does_buildSlice (X := ?_) (cs := ?_) (E := ?_) hS rfl ?_ ?_) rfl ?_; rotate_left 3; (go_simp; rfl); rfl; clear hS; rintro _ wx ⟨bx, rfl, hS, _⟩; (simp only [Act.put, sA, sZ, sS])))
          go_roundw
          case rel => exact ⟨i + 1, r, B, d, by go_num, rfl, by rw [Hr.out, Hq.out, show (i + 1) * k = i * k + k from Nat.succ_mul i k]; omega, hlt, by rw [← H1.out, HP.out]; exact hS.sel [0] rfl (by decide)⟩
          case measure => simp [intOf]; omega
    · obtain rfl : i = n := by omega
      clear hq
      go_wp2_with (first | (go_at_call 82; refine (spec_in _ _ _ _).mono ?_; rintro e w' ⟨rfl, rfl⟩; (simp only [h2, h3])) | ((with_reducible show wpList _ _ _ (⟨_, Op.box _ _, _, _, _, _⟩ :: _) _ _); refine Does.list (does_box hS rfl rfl (by rfl)) rfl ?_; clear hS; rintro _ wx ⟨bo, rfl, hS, _⟩; (simp only [Act.put, sA, sZ, sS])) | ((with_reducible show wpList _ _ _ (⟨_, Op.load _ _, _, _, _, _⟩ :: _) _ _); (first | refine Gives.list (f_load hS rfl rfl (by rfl)) rfl ?_ | refine Gives.list (f_loadS hS rfl rfl (by rfl)) rfl ?_ | refine Gives.list (f_loadAt hS rfl rfl) rfl ?_ | refine Gives.list (f_loadAtS hS rfl rfl (by rfl)) rfl ?_ | refine Gives.list (f_loadAtF hS rfl rfl (by rfl)) rfl ?_); (simp only [Act.put, sA, sZ, sS])) | ((with_reducible show wpList _ _ _ (⟨_, Op.store _ _ _, _, _, _, _⟩ :: _) _ _); (first | refine Does.list (f_store hS rfl rfl rfl (by rfl) (by rfl)) rfl ?_ | refine Does.list (f_storeS hS rfl rfl rfl (by rfl) (by rfl) (by rfl)) rfl ?_); clear hS; rintro _ wx ⟨rfl, hS⟩; (simp only [sZ, sS] at hS); (simp only [Act.put, sA, sZ, sS])) | ((with_reducible show wpList _ _ _ (⟨_, Op.alloc _, _, _, _, _⟩ :: _) _ _); refine Does.list (does_alloc hS rfl (by rfl)) rfl ?_; clear hS; rintro _ wx ⟨ba, rfl, hS, _⟩; (simp only [Act.put, sA, sZ, sS])) | ((with_reducible show wpList _ _ _ (⟨_, Op.buildSlice _ _ _, _, _, _, _⟩ :: _) _ _); refine Does.list (does_buildSlice (X := ?_) (cs := ?_) (E := ?_) hS rfl ?_ ?_) rfl ?_; rotate_left 3; (go_simp; rfl); rfl; clear hS; rintro _ wx ⟨bx, rfl, hS, _⟩; (simp only [Act.put, sA, sZ, sS])))
      go_ret
      exact ⟨_, rfl, hS.result⟩
end Go.Proofs.YtldknaajnnohiaaDoor
end

section
namespace Go.Proofs.YtldknaajnnohiaaDoor
open Go.RowKit

def jNam (ns ms : List ByteArray) (left right : ByteArray) : Bool := namesOk (ns ++ ms) && (hasS ns left && hasS ms right)
set_option maxHeartbeats 4000000 in
set_option maxRecDepth 8000 in
theorem impl_joinNames (w : World) (hR : ResOk w) (A1 D1 : Option Addr) (c1 k1 : Nat) (F G : List Nat) (ns ms : List ByteArray) (left right : ByteArray) (hn : ns.length ≤ 6) (hm : ms.length ≤ 6) (hx : SliceHas Rep.str w F [.slice A1 ns.length c1] ns) (hy : SliceHas Rep.str w G [.slice D1 ms.length k1] ms) :
    Calls Tryd.prog 128 #[.slice A1 ns.length c1, .slice D1 ms.length k1, .string left, .string right] w fun e w' => ∃ v, e = .returned (.tuple #[v, .bool (jNam ns ms left right)]) ∧ Fresh Rep.str.rows w w' [v] (ns ++ ms) := by
  have hS : Sat w w [.ro Rep.str.slice [.slice A1 ns.length c1] ns, .ro Rep.str.slice [.slice D1 ms.length k1] ms] := ((Sat.nil w).arg hy).arg hx
  clear hx hy
  obtain ⟨b1, h1⟩ : ∃ b, namesOk (ns ++ ms) = b := ⟨_, rfl⟩
  obtain ⟨b2, h2⟩ : ∃ b, hasS ns left = b := ⟨_, rfl⟩
  obtain ⟨b3, h3⟩ : ∃ b, hasS ms right = b := ⟨_, rfl⟩
  have HG : Hid (jNam ns ms left right = (b1 && (b2 && b3))) := Lib.hid (by unfold jNam; rw [h1, h2, h3])
  have H1 := Lib.hid h1
  have H2 := Lib.hid h2
  have H3 := Lib.hid h3
  clear h1 h2 h3
  go_enter Tryd.func128, Tryd.ntmps128
  cases b1
  · go_wp2_with (first | (go_at_call 69; obtain ⟨Fq, hFq⟩ := hS.has Rep.str.slice [.slice A1 ns.length c1]; refine (impl_cloneNames' _ Fq _ ns hFq (by omega)).mono ?_; rintro e w' ⟨v1, rfl, hN⟩; replace hS := hS.fresh hN; clear hN hFq; obtain ⟨B1, d1, rfl⟩ := hS.formOwn 0 rfl) | ((with_reducible show wpList _ _ _ (⟨_, Op.call { callee := Callee.builtin Builtin.append, args := _, argTypes := _ }, _, _, _, _⟩ :: _) _ _); refine Does.list (f_appendFlat Rep.str Rep.str hS rfl rfl rfl rfl rfl rfl (by decide) (by omega)) rfl ?_; clear hS; rintro _ wx ⟨A2, c2, rfl, hS⟩; (simp only [sZ, sS] at hS); (simp only [Act.put, sA, sZ, sS])) | (go_at_call 68; obtain ⟨Fq, hFq⟩ := hS.has Rep.str.slice [.slice A2 (ns.length + ms.length) c2]; refine (impl_columnsValid _ (hR.mod0 hS.mod0) Fq _ (ns ++ ms) hFq).mono ?_; rintro e w' ⟨rfl, hM⟩; replace hS := hS.mod hM; clear hM hFq; (simp only [H1.out])) | (go_at_call 98; (with_reducible show Calls _ _ #[.slice A1 _ _, _] _ _); obtain ⟨Fq, hFq⟩ := hS.has Rep.str.slice [.slice A1 ns.length c1]; refine (sl_Contains_str _ Fq _ ns _ hFq).mono ?_; rintro e w' ⟨rfl, hM⟩; replace hS := hS.mod hM; clear hM hFq; (simp only [H2.out])) | (go_at_call 98; (with_reducible show Calls _ _ #[.slice D1 _ _, _] _ _); obtain ⟨Fq, hFq⟩ := hS.has Rep.str.slice [.slice D1 ms.length k1]; refine (sl_Contains_str _ Fq _ ms _ hFq).mono ?_; rintro e w' ⟨rfl, hM⟩; replace hS := hS.mod hM; clear hM hFq; (simp only [H3.out])) | ((with_reducible show wpList _ _ _ (⟨_, Op.box _ _, _, _, _, _⟩ :: _) _ _); refine Does.list (does_box hS rfl rfl (by rfl)) rfl ?_; clear hS; rintro _ wx ⟨bo, rfl, hS, _⟩; (simp only [Act.put, sA, sZ, sS])) | ((with_reducible show wpList _ _ _ (⟨_, Op.load _ _, _, _, _, _⟩ :: _) _ _); (first | refine Gives.list (f_load hS rfl rfl (by rfl)) rfl ?_ | refine Gives.list (f_loadS hS rfl rfl (by rfl)) rfl ?_ | refine Gives.list (f_loadAt hS rfl rfl) rfl ?_ | refine Gives.list (f_loadAtS hS rfl rfl (by rfl)) rfl ?_ | refine Gives.list (f_loadAtF hS rfl rfl (by rfl)) rfl ?_); (simp only [Act.put, sA, sZ, sS])) | ((with_reducible show wpList _ _ _ (⟨_, Op.store _ _ _, _, _, _, _⟩ :: _) _ _); (first | refine Does.list (f_store hS rfl rfl rfl (by rfl) (by rfl)) rfl ?_ | refine Does.list (f_storeS hS rfl rfl rfl (by rfl) (by rfl) (by rfl)) rfl ?_); clear hS; rintro _ wx ⟨rfl, hS⟩; (simp only [sZ, sS] at hS); (simp only [Act.put, sA, sZ, sS])) | ((with_reducible show wpList _ _ _ (⟨_, Op.alloc _, _, _, _, _⟩ :: _) _ _); refine Does.list (does_alloc hS rfl (by rfl)) rfl ?_; clear hS; rintro _ wx ⟨ba, rfl, hS, _⟩; (simp only [Act.put, sA, sZ, sS])) | ((with_reducible show wpList _ _ _ (⟨_, Op.buildSlice _ _ _, _, _, _, _⟩ :: _) _ _); refine Does.list (does_buildSlice (X := ?_) (cs := ?_) (E := ?_) hS rfl ?_ ?_) rfl ?_; rotate_left 3; (go_simp; rfl); rfl; clear hS; rintro _ wx ⟨bx, rfl, hS, _⟩; (simp only [Act.put, sA, sZ, sS])))
    go_ret2
    exact ⟨_, by rw [HG.out]; rfl, hS.result⟩
  cases b2
  · go_wp2_with (first | (go_at_call 69; obtain ⟨Fq, hFq⟩ := hS.has Rep.str.slice [.slice A1 ns.length c1]; refine (impl_cloneNames' _ Fq _ ns hFq (by omega)).mono ?_; rintro e w' ⟨v1, rfl, hN⟩; replace hS := hS.fresh hN; clear hN hFq; obtain ⟨B1, d1, rfl⟩ := hS.formOwn 0 rfl) | ((with_reducible show wpList _ _ _ (⟨_, Op.call { callee := Callee.builtin Builtin.append, args := _, argTypes := _ }, _, _, _, _⟩ :: _) _ _); refine Does.list (f_appendFlat Rep.str Rep.str hS rfl rfl rfl rfl rfl rfl (by decide) (by omega)) rfl ?_; clear hS; rintro _ wx ⟨A2, c2, rfl, hS⟩; (simp only [sZ, sS] at hS); (simp only [Act.put, sA, sZ, sS])) | (go_at_call 68; obtain ⟨Fq, hFq⟩ := hS.has Rep.str.slice [.slice A2 (ns.length + ms.length) c2]; refine (impl_columnsValid _ (hR.mod0 hS.mod0) Fq _ (ns ++ ms) hFq).mono ?_; rintro e w' ⟨rfl, hM⟩; replace hS := hS.mod hM; clear hM hFq; (simp only [H1.out])) | (go_at_call 98; (with_reducible show Calls _ _ #[.slice A1 _ _, _] _ _); obtain ⟨Fq, hFq⟩ := hS.has Rep.str.slice [.slice A1 ns.length c1]; refine (sl_Contains_str _ Fq _ ns _ hFq).mono ?_; rintro e w' ⟨rfl, hM⟩; replace hS := hS.mod hM; clear hM hFq; (simp only [H2.out])) | (go_at_call 98; (with_reducible show Calls _ _ #[.slice D1 _ _, _] _ _); obtain ⟨Fq, hFq⟩ := hS.has Rep.str.slice [.slice D1 ms.length k1]; refine (sl_Contains_str _ Fq _ ms _ hFq).mono ?_; rintro e w' ⟨rfl, hM⟩; replace hS := hS.mod hM; clear hM hFq; (simp only [H3.out])) | ((with_reducible show wpList _ _ _ (⟨_, Op.box _ _, _, _, _, _⟩ :: _) _ _); refine Does.list (does_box hS rfl rfl (by rfl)) rfl ?_; clear hS; rintro _ wx ⟨bo, rfl, hS, _⟩; (simp only [Act.put, sA, sZ, sS])) | ((with_reducible show wpList _ _ _ (⟨_, Op.load _ _, _, _, _, _⟩ :: _) _ _); (first | refine Gives.list (f_load hS rfl rfl (by rfl)) rfl ?_ | refine Gives.list (f_loadS hS rfl rfl (by rfl)) rfl ?_ | refine Gives.list (f_loadAt hS rfl rfl) rfl ?_ | refine Gives.list (f_loadAtS hS rfl rfl (by rfl)) rfl ?_ | refine Gives.list (f_loadAtF hS rfl rfl (by rfl)) rfl ?_); (simp only [Act.put, sA, sZ, sS])) | ((with_reducible show wpList _ _ _ (⟨_, Op.store _ _ _, _, _, _, _⟩ :: _) _ _); (first | refine Does.list (f_store hS rfl rfl rfl (by rfl) (by rfl)) rfl ?_ | refine Does.list (f_storeS hS rfl rfl rfl (by rfl) (by rfl) (by rfl)) rfl ?_); clear hS; rintro _ wx ⟨rfl, hS⟩; (simp only [sZ, sS] at hS); (simp only [Act.put, sA, sZ, sS])) | ((with_reducible show wpList _ _ _ (⟨_, Op.alloc _, _, _, _, _⟩ :: _) _ _); refine Does.list (does_alloc hS rfl (by rfl)) rfl ?_; clear hS; rintro _ wx ⟨ba, rfl, hS, _⟩; (simp only [Act.put, sA, sZ, sS])) | ((with_reducible show wpList _ _ _ (⟨_, Op.buildSlice _ _ _, _, _, _, _⟩ :: _) _ _); refine Does.list (does_buildSlice (X := ?_) (cs := ?_) (E := ?_) hS rfl ?_ ?_) rfl ?_; rotate_left 3; (go_simp; rfl); rfl; clear hS; rintro _ wx ⟨bx, rfl, hS, _⟩; (simp only [Act.put, sA, sZ, sS])))
    go_ret2
    exact ⟨_, by rw [HG.out]; rfl, hS.result⟩
  cases b3
  all_goals
    go_wp2_with (first | (go_at_call 69; obtain ⟨Fq, hFq⟩ := hS.has Rep.str.slice [.slice A1 ns.length c1]; refine (impl_cloneNames' _ Fq _ ns hFq (by omega)).mono ?_; rintro e w' ⟨v1, rfl, hN⟩; replace hS := hS.fresh hN; clear hN hFq; obtain ⟨B1, d1, rfl⟩ := hS.formOwn 0 rfl) | ((with_reducible show wpList _ _ _ (⟨_, Op.call { callee := Callee.builtin Builtin.append, args := _, argTypes := _ }, _, _, _, _⟩ :: _) _ _); refine Does.list (f_appendFlat Rep.str Rep.str hS rfl rfl rfl rfl rfl rfl (by decide) (by omega)) rfl ?_; clear hS; rintro _ wx ⟨A2, c2, rfl, hS⟩; (simp only [sZ, sS] at hS); (simp only [Act.put, sA, sZ, sS])) | (go_at_call 68; obtain ⟨Fq, hFq⟩ := hS.has Rep.str.slice [.slice A2 (ns.length + ms.length) c2]; refine (impl_columnsValid _ (hR.mod0 hS.mod0) Fq _ (ns ++ ms) hFq).mono ?_; rintro e w' ⟨rfl, hM⟩; replace hS := hS.mod hM; clear hM hFq; (simp only [H1.out])) | (go_at_call 98; (with_reducible show Calls _ _ #[.slice A1 _ _, _] _ _); obtain ⟨Fq, hFq⟩ := hS.has Rep.str.slice [.slice A1 ns.length c1]; refine (sl_Contains_str _ Fq _ ns _ hFq).mono ?_; rintro e w' ⟨rfl, hM⟩; replace hS := hS.mod hM; clear hM hFq; (simp only [H2.out])) | (go_at_call 98; (with_reducible show Calls _ _ #[.slice D1 _ _, _] _ _); obtain ⟨Fq, hFq⟩ := hS.has Rep.str.slice [.slice D1 ms.length k1]; refine (sl_Contains_str _ Fq _ ms _ hFq).mono ?_; rintro e w' ⟨rfl, hM⟩; replace hS := hS.mod hM; clear hM hFq; (simp only [H3.out])) | ((with_reducible show wpList _ _ _ (⟨_, Op.box _ _, _, _, _, _⟩ :: _) _ _); refine Does.list (does_box hS rfl rfl (by rfl)) rfl ?_; clear hS; rintro _ wx ⟨bo, rfl, hS, _⟩; (simp only [Act.put, sA, sZ, sS])) | ((with_reducible show wpList _ _ _ (⟨_, Op.load _ _, _, _, _, _⟩ :: _) _ _); (first | refine Gives.list (f_load hS rfl rfl (by rfl)) rfl ?_ | refine Gives.list (f_loadS hS rfl rfl (by rfl)) rfl ?_ | refine Gives.list (f_loadAt hS rfl rfl) rfl ?_ | refine Gives.list (f_loadAtS hS rfl rfl (by rfl)) rfl ?_ | refine Gives.list (f_loadAtF hS rfl rfl (by rfl)) rfl ?_); (simp only [Act.put, sA, sZ, sS])) | ((with_reducible show wpList _ _ _ (⟨_, Op.store _ _ _, _, _, _, _⟩ :: _) _ _); (first | refine Does.list (f_store hS rfl rfl rfl (by rfl) (by rfl)) rfl ?_ | refine Does.list (f_storeS hS rfl rfl rfl (by rfl) (by rfl) (by rfl)) rfl ?_); clear hS; rintro _ wx ⟨rfl, hS⟩; (simp only [sZ, sS] at hS); (simp only [Act.put, sA, sZ, sS])) | ((with_reducible show wpList _ _ _ (⟨_, Op.alloc _, _, _, _, _⟩ :: _) _ _); refine Does.list (does_alloc hS rfl (by rfl)) rfl ?_; clear hS; rintro _ wx ⟨ba, rfl, hS, _⟩; (simp only [Act.put, sA, sZ, sS])) | ((with_reducible show wpList _ _ _ (⟨_, Op.buildSlice _ _ _, _, _, _, _⟩ :: _) _ _); refine Does.list (does_buildSlice (X := ?_) (cs := ?_) (E := ?_) hS rfl ?_ ?_) rfl ?_; rotate_left 3; (go_simp; rfl); rfl; clear hS; rintro _ wx ⟨bx, rfl, hS, _⟩; (simp only [Act.put, sA, sZ, sS])))
    go_ret2
    exact ⟨_, by rw [HG.out]; rfl, hS.result⟩
section
variable {P Y : List RowB} {f : RowB → RowB} {k : Nat} {y v : RowB}
theorem jStep (hy : Y[k]? = some y) (hv : f y = v) : (P ++ (Y.take k).map f) ++ [v] = P ++ (Y.take (k + 1)).map f := by
  obtain ⟨h, he⟩ := List.getElem?_eq_some_iff.1 hy
  rw [List.append_assoc, List.take_succ_eq_append_getElem h, List.map_append, he]
  show P ++ ((Y.take k).map f ++ [v]) = P ++ ((Y.take k).map f ++ [f y])
  rw [hv]
theorem jStep1 (hy : Y[k]? = some y) (hv : f y = v) : (P ++ (Y.take k).map f).map Prod.fst ++ [v.1] = (P ++ (Y.take (k + 1)).map f).map Prod.fst := by
  rw [← jStep (P := P) hy hv, List.map_append (l₂ := [v])]; rfl
theorem jStep2 (hy : Y[k]? = some y) (hv : f y = v) : (P ++ (Y.take k).map f).map Prod.snd ++ [v.2] = (P ++ (Y.take (k + 1)).map f).map Prod.snd := by
  rw [← jStep (P := P) hy hv, List.map_append (l₂ := [v])]; rfl
end
theorem zip_get {rows : List (List Int)} {real : List Bool} {k : Nat} {r : List Int} {b : Bool} (h1 : rows[k]? = some r) (h2 : real[k]? = some b) : (rows.zip real)[k]? = some (r, b) := by
  rw [List.getElem?_zip_eq_some]; exact ⟨h1, h2⟩
end Go.Proofs.YtldknaajnnohiaaDoor
end
