/- Groups of sorted rows: the plain laws behind FnGroupPadded. No program occurs here. -/
import Derived.Test.YtldknaajnnohiaaDoorTkQ
import Derived.Test.YtldknaajnnohiaaDoorGrS
import Derived.Test.YtldknaajnnohiaaDoorGrT
section
namespace Go.Proofs.YtldknaajnnohiaaDoor
open Go.RowKit

abbrev KV := Int × Int
/-- Runs of equal keys, each with how many there are and their sum; c and s: what came ahead of the list in its first run. -/
def runs : List KV → Int → Int → List (List Int)
  | [], _, _ => []
  | [x], c, s => [[x.1, c + 1, s + x.2]]
  | x :: y :: L, c, s => if y.1 = x.1 then runs (y :: L) (c + 1) (s + x.2) else [x.1, c + 1, s + x.2] :: runs (y :: L) 0 0
def cntK (k : Int) (L : List KV) : Int := ((L.countP (fun x => decide (x.1 = k)) : Nat) : Int)
def sumK (k : Int) (L : List KV) : Int := ((L.filter (fun x => decide (x.1 = k))).map (·.2)).sum
theorem cntK_cons (k : Int) (x : KV) (L : List KV) : cntK k (x :: L) = (if x.1 = k then 1 else 0) + cntK k L := by
  unfold cntK
  rw [List.countP_cons]
  by_cases h : x.1 = k
  · simp [h]; omega
  · simp [h]
theorem sumK_cons (k : Int) (x : KV) (L : List KV) : sumK k (x :: L) = (if x.1 = k then x.2 else 0) + sumK k L := by
  unfold sumK
  rw [List.filter_cons]
  by_cases h : x.1 = k
  · simp [h]
  · simp [h]
def KSorted (L : List KV) : Prop := L.Pairwise (fun x y => x.1 ≤ y.1)
/-- A run is all of its key, and what follows has other keys. -/
theorem runs_cons : ∀ (L : List KV) (x : KV) (c s : Int), KSorted (x :: L) → runs (x :: L) c s = [x.1, c + 1 + cntK x.1 L, s + x.2 + sumK x.1 L] :: runs (L.filter (fun y => !decide (y.1 = x.1))) 0 0
  | [], x, c, s, _ => by simp [runs, cntK, sumK]
  | y :: L, x, c, s, h => by
    unfold KSorted at h
    rw [List.pairwise_cons] at h
    have h2 := h.2
    by_cases hk : y.1 = x.1
    · rw [runs, if_pos hk, runs_cons L y (c + 1) (s + x.2) h2, cntK_cons, sumK_cons, if_pos hk, if_pos hk, hk, List.filter_cons]
      simp only [hk, decide_true, Bool.not_true, Bool.false_eq_true, if_false]
      congr 3
      · omega
      · congr 1; omega
    · rw [runs, if_neg hk]
      have hlt : ∀ z ∈ y :: L, z.1 ≠ x.1 := by
        intro z hz
        have h3 : x.1 ≤ y.1 := h.1 y (by simp)
        rcases List.mem_cons.1 hz with rfl | hz
        · exact hk
        · have h4 : y.1 ≤ z.1 := (List.pairwise_cons.1 h2).1 z hz
          omega
      have e1 : cntK x.1 (y :: L) = 0 := by
        unfold cntK
        rw [List.countP_eq_zero.2 (fun z hz => by simp [hlt z hz])]; rfl
      have e2 : sumK x.1 (y :: L) = 0 := by
        unfold sumK
        rw [List.filter_eq_nil_iff.2 (fun z hz => by simp [hlt z hz])]; rfl
      have e3 : (y :: L).filter (fun z => !decide (z.1 = x.1)) = y :: L := List.filter_eq_self.2 (fun z hz => by simp [hlt z hz])
      rw [e1, e2, e3]
      simp
theorem sum_perm {L M : List Int} (h : L.Perm M) : L.sum = M.sum := by
  induction h with
  | nil => rfl
  | cons x _ ih => simp [ih]
  | swap x y l => simp; omega
  | trans _ _ h1 h2 => exact h1.trans h2
theorem sumK_perm {k : Int} {L M : List KV} (h : L.Perm M) : sumK k L = sumK k M := by
  unfold sumK
  exact sum_perm ((h.filter _).map _)
theorem cntK_perm {k : Int} {L M : List KV} (h : L.Perm M) : cntK k L = cntK k M := by
  unfold cntK
  rw [h.countP_eq]
/-- Which order there is within a key does not matter. -/
theorem runs_perm : ∀ (n : Nat) (L M : List KV), L.length ≤ n → L.Perm M → KSorted L → KSorted M → runs L 0 0 = runs M 0 0
  | _, [], M, _, hp, _, _ => by rw [List.nil_perm.1 hp]
  | 0, x :: L, M, hl, _, _, _ => by simp at hl
  | n + 1, x :: L, M, hl, hp, hL, hM => by
    cases M with
    | nil => exact absurd hp (by simp)
    | cons y M =>
      have hxy : x.1 = y.1 := by
        have h1 : x ∈ y :: M := hp.mem_iff.1 (by simp)
        have h2 : y ∈ x :: L := hp.mem_iff.2 (by simp)
        have h3 : y.1 ≤ x.1 := by
          rcases List.mem_cons.1 h1 with rfl | h
          · exact Int.le_refl _
          · exact (List.pairwise_cons.1 hM).1 x h
        have h4 : x.1 ≤ y.1 := by
          rcases List.mem_cons.1 h2 with h | h
          · rw [h]; exact Int.le_refl _
          · exact (List.pairwise_cons.1 hL).1 y h
        omega
      rw [runs_cons L x 0 0 hL, runs_cons M y 0 0 hM]
      have hc := cntK_perm (k := x.1) hp
      have hs := sumK_perm (k := x.1) hp
      rw [cntK_cons, cntK_cons, if_pos rfl, if_pos hxy.symm] at hc
      rw [sumK_cons, sumK_cons, if_pos rfl, if_pos hxy.symm] at hs
      have hf : (L.filter (fun z => !decide (z.1 = x.1))).Perm (M.filter (fun z => !decide (z.1 = y.1))) := by
        have h5 := hp.filter (fun z => !decide (z.1 = x.1))
        rw [List.filter_cons, List.filter_cons] at h5
        simp only [decide_true, Bool.not_true, Bool.false_eq_true, if_false, hxy.symm] at h5
        rw [← hxy]
        exact h5
      rw [← hxy]
      have hrec := runs_perm n _ _ (by have := List.length_filter_le (fun z : KV => !decide (z.1 = x.1)) L; simp at hl; omega) hf (((List.pairwise_cons.1 hL).2).filter _) (((List.pairwise_cons.1 hM).2).filter _)
      rw [← hxy] at hrec
      rw [hrec, show cntK x.1 L = cntK x.1 M by omega, show (0 : Int) + x.2 + sumK x.1 L = 0 + y.2 + sumK x.1 M by omega]
/-! ### What GroupPadded's real rows are -/
def kvOf (kk vv : Nat) (r : List Int) : KV := (r.getD kk 0, r.getD vv 0)
def realZ (Z : List RowB) : List (List Int) := (Z.filter (·.2)).map (·.1)
theorem realZ_perm {Y Z : List RowB} (h : Y.Perm Z) : (realZ Y).Perm (realZ Z) := (h.filter _).map _
theorem realZ_keys {kk vv : Nat} {Z : List RowB} : KSorted ((realZ (sortZ (kk : Int) false Z)).map (kvOf kk vv)) := by
  unfold KSorted realZ
  rw [List.pairwise_map, List.pairwise_map, List.pairwise_filter]
  refine sortZ_sorted.imp ?_
  intro a b h ha hb
  unfold ltR comb at h
  have h1 : ltReal b a = false := by unfold ltReal; rw [ha, hb]; rfl
  have h2 : ltReal a b = false := by unfold ltReal; rw [ha, hb]; rfl
  rw [h1, h2] at h
  simp only [Bool.false_or, Bool.not_false, Bool.true_and, Bool.or_eq_false_iff] at h
  have h3 := h.1
  unfold ltKey at h3
  simp at h3
  have h4 : keyOf (kk : Int) a ≤ keyOf (kk : Int) b := by omega
  exact h4
section
variable {rows : List (List Int)} {real : List Bool} {kk vv m : Nat}
theorem realRows_take_front (hm : m ≤ rows.length) (h : real = List.replicate m true ++ List.replicate (rows.length - m) false) : realRows rows real = rows.take m := by
  subst h
  unfold realRows
  conv => lhs; rw [← List.take_append_drop m rows]
  rw [List.zip_append (by simp; omega), List.filter_append, List.map_append]
  have h1 : (((rows.take m).zip (List.replicate m true)).filter (·.2)).map (·.1) = rows.take m := by
    rw [List.filter_eq_self.2 (fun x hx => ?_)]
    · exact List.map_fst_zip (by rw [List.length_take, List.length_replicate]; exact Nat.min_le_left _ _)
    · have := (List.of_mem_zip hx).2
      exact (List.mem_replicate.1 this).2
  have h2 : ((rows.drop m).zip (List.replicate ((List.take m rows ++ List.drop m rows).length - m) false)).filter (·.2) = [] := by
    rw [List.filter_eq_nil_iff]
    intro x hx
    have := (List.of_mem_zip hx).2
    rw [(List.mem_replicate.1 this).2]
    simp
  rw [h1, h2]
  simp
/-- The rows of groups, and which rows they are. -/
theorem groups_runs (hm : m ≤ rows.length) (hr : ∀ i, real.getD i false = decide (i < m)) : ∀ k, k ≤ m →
    ((List.range k).filter (gLast rows real kk)).map (gRow rows real kk vv) ++ runs (((rows.take m).map (kvOf kk vv)).drop k) (gSt rows real kk vv k).1 (gSt rows real kk vv k).2 = runs ((rows.take m).map (kvOf kk vv)) 0 0 := by
  intro k
  induction k with
  | zero => intro _; simp [gSt]
  | succ k ih =>
    intro hk
    have ih := ih (by omega)
    have hlen : ((rows.take m).map (kvOf kk vv)).length = m := by rw [List.length_map, List.length_take]; omega
    have hx : ∀ i (h : i < ((rows.take m).map (kvOf kk vv)).length), ((rows.take m).map (kvOf kk vv))[i] = (gCell rows i kk, gCell rows i vv) := by
      intro i h
      rw [List.getElem_map, List.getElem_take]
      unfold kvOf gCell
      rw [List.getD_eq_getElem?_getD (l := rows), List.getElem?_eq_getElem (by omega)]; rfl
    rw [← ih, List.range_succ, List.filter_append, List.map_append, List.append_assoc]
    congr 1
    have hd := List.drop_eq_getElem_cons (l := (rows.take m).map (kvOf kk vv)) (i := k) (by omega)
    rw [hd, hx k (by omega)]
    have hrk : real.getD k false = true := by rw [hr, decide_eq_true (by omega)]
    by_cases hkm : k + 1 < m
    · have hd2 := List.drop_eq_getElem_cons (l := (rows.take m).map (kvOf kk vv)) (i := k + 1) (by omega)
      rw [hd2, hx (k + 1) (by omega)]
      have hl : gLast rows real kk k = !decide (gCell rows (k + 1) kk = gCell rows k kk) := by
        unfold gLast
        rw [hrk, hr, decide_eq_true hkm, decide_eq_true (show k + 1 < rows.length by omega)]; rfl
      by_cases hkey : gCell rows (k + 1) kk = gCell rows k kk
      · rw [decide_eq_true hkey] at hl
        rw [runs, if_pos hkey, List.filter_cons, hl, gSt, hrk, hl]
        simp
      · rw [decide_eq_false hkey] at hl
        have hg : gRow rows real kk vv k = [gCell rows k kk, (gSt rows real kk vv k).1 + 1, (gSt rows real kk vv k).2 + gCell rows k vv] := by unfold gRow; rw [hl]; rfl
        rw [runs, if_neg hkey, List.filter_cons, hl, gSt, hrk, hl]
        simp [hg]
    · have hd2 : ((rows.take m).map (kvOf kk vv)).drop (k + 1) = [] := List.drop_eq_nil_of_le (by omega)
      rw [hd2]
      have hl : gLast rows real kk k = true := by
        unfold gLast
        rw [hrk, hr, decide_eq_false hkm]; simp
      have hg : gRow rows real kk vv k = [gCell rows k kk, (gSt rows real kk vv k).1 + 1, (gSt rows real kk vv k).2 + gCell rows k vv] := by unfold gRow; rw [hl]; rfl
      rw [runs, List.filter_cons, hl]
      simp [runs, hg]
end
end Go.Proofs.YtldknaajnnohiaaDoor
end

section
namespace Go.Proofs.YtldknaajnnohiaaDoor
open Go.RowKit

theorem map_filter_zip {α : Type} (f : Nat → α) (q : Nat → Bool) (L : List Nat) : (((L.map f).zip (L.map q)).filter (·.2)).map (·.1) = (L.filter q).map f := by
  induction L with
  | nil => rfl
  | cons x L ih =>
    rw [List.map_cons, List.map_cons, List.zip_cons_cons, List.filter_cons, List.filter_cons]
    by_cases h : q x = true
    · simp only [h, if_true, List.map_cons]
      rw [ih]
    · rw [Bool.not_eq_true] at h
      simp only [h, Bool.false_eq_true, if_false]
      exact ih
theorem zip_fst_snd {Z : List RowB} : (Z.map Prod.fst).zip (Z.map Prod.snd) = Z := by
  induction Z with
  | nil => rfl
  | cons x Z ih => simp [ih]
theorem gLast_none {rows : List (List Int)} {real : List Bool} {kk m i : Nat} (hr : ∀ i, real.getD i false = decide (i < m)) (hi : m ≤ i) : gLast rows real kk i = false := by
  unfold gLast
  rw [hr, decide_eq_false (by omega)]; rfl
theorem group_real {rows : List (List Int)} {real : List Bool} {kk vv m : Nat} (hm : m ≤ rows.length) (h : real = List.replicate m true ++ List.replicate (rows.length - m) false) :
    realRows (gRows rows real kk vv rows.length) (gMarks rows real kk rows.length) = runs ((realRows rows real).map (kvOf kk vv)) 0 0 := by
  have hr : ∀ i, real.getD i false = decide (i < m) := by
    intro i
    rw [h, List.getD_eq_getElem?_getD]
    by_cases hi : i < m
    · rw [List.getElem?_append_left (by rw [List.length_replicate]; exact hi), List.getElem?_replicate, if_pos hi, decide_eq_true hi]; rfl
    · rw [List.getElem?_append_right (by rw [List.length_replicate]; omega), List.getElem?_replicate, List.length_replicate, decide_eq_false hi]
      by_cases h2 : i - m < rows.length - m
      · rw [if_pos h2]; rfl
      · rw [if_neg h2]; rfl
  rw [realRows_take_front hm h]
  have h1 := groups_runs (kk := kk) (vv := vv) hm hr m (Nat.le_refl m)
  rw [List.drop_eq_nil_of_le (by rw [List.length_map, List.length_take]; omega)] at h1
  have h0 : runs [] (gSt rows real kk vv m).1 (gSt rows real kk vv m).2 = [] := by rw [runs]
  rw [h0, List.append_nil] at h1
  rw [← h1]
  unfold realRows gRows gMarks
  rw [map_filter_zip]
  congr 1
  have e : rows.length = m + (rows.length - m) := by omega
  rw [e, List.range_add, List.filter_append]
  have h2 : ((List.range (rows.length - m)).map (m + ·)).filter (gLast rows real kk) = [] := by
    rw [List.filter_eq_nil_iff]
    intro x hx
    obtain ⟨y, -, rfl⟩ := List.mem_map.1 hx
    rw [gLast_none hr (by omega)]
    simp
  rw [h2, List.append_nil]
/-- What both programs' answers are shown equal to. -/
theorem groupReal {p : PaddedD} {g s : ByteArray} {L : List KV} (hok : paddedOk p = true) (hc : 0 ≤ colOf p.1 g) (hp : L.Perm ((realRows p.2.1 p.2.2).map (kvOf (gKey p g) (gKey p s)))) (hs : KSorted L) :
    realRows (gOut p g s).2.1 (gOut p g s).2.2 = runs L 0 0 := by
  have hf := sortP_front (c := colOf p.1 g) (down := false) (p := p)
  have hrl : p.2.2.length = p.2.1.length := by
    obtain ⟨ns, rows, real⟩ := p
    exact (padded_lenC hok).2
  have hl1 : (sortP (colOf p.1 g) false p).2.1.length = p.2.1.length := by
    unfold sortP
    dsimp only
    rw [List.length_map, sortZ_len, List.length_zip, hrl, Nat.min_self]
  have hl2 : (sortP (colOf p.1 g) false p).2.2.length = p.2.1.length := by
    unfold sortP
    dsimp only
    rw [List.length_map, sortZ_len, List.length_zip, hrl, Nat.min_self]
  have hm : (sortP (colOf p.1 g) false p).2.2.countP id ≤ (sortP (colOf p.1 g) false p).2.1.length := by
    have := List.countP_le_length (p := id) (l := (sortP (colOf p.1 g) false p).2.2)
    omega
  rw [hl2, ← hl1] at hf
  have h1 := group_real (kk := gKey p g) (vv := gKey p s) hm hf
  rw [hl1] at h1
  have e : (gOut p g s).2.1 = gRows (sortP (colOf p.1 g) false p).2.1 (sortP (colOf p.1 g) false p).2.2 (gKey p g) (gKey p s) p.2.1.length := rfl
  have e2 : (gOut p g s).2.2 = gMarks (sortP (colOf p.1 g) false p).2.1 (sortP (colOf p.1 g) false p).2.2 (gKey p g) p.2.1.length := rfl
  rw [e, e2, h1]
  have e3 : realRows (sortP (colOf p.1 g) false p).2.1 (sortP (colOf p.1 g) false p).2.2 = realZ (sortZ (colOf p.1 g) false (p.2.1.zip p.2.2)) := by
    unfold realRows realZ sortP
    dsimp only
    rw [zip_fst_snd]
  rw [e3]
  have ek : colOf p.1 g = ((gKey p g : Nat) : Int) := by unfold gKey; omega
  refine runs_perm _ _ _ (Nat.le_refl _) ?_ ?_ hs
  · exact (((realZ_perm sortZ_perm).map _).trans hp.symm)
  · rw [ek]; exact realZ_keys
end Go.Proofs.YtldknaajnnohiaaDoor
end

section
namespace Go.Proofs.YtldknaajnnohiaaDoor
open Go.RowKit

/-- A sorted list of pairs is sorted by key. -/
theorem pairs_sorted {Y : List (List Int)} (h : Y.Pairwise (fun x y => lessL y x = false)) (hl : ∀ y ∈ Y, y.length = 2) : KSorted (Y.map (kvOf 0 1)) := by
  unfold KSorted
  rw [List.pairwise_map]
  refine (List.Pairwise.and_mem.1 h).imp ?_
  rintro x y ⟨hx, hy, hxy⟩
  have h1 := hl x hx
  have h2 := hl y hy
  match x, y, h1, h2, hxy with
  | [a, b], [c, d], _, _, hxy =>
    show a ≤ c
    unfold lessL at hxy
    by_cases hk : c = a
    · omega
    · rw [if_neg hk] at hxy
      have := of_decide_eq_false hxy
      omega
theorem takePairs {ns : List ByteArray} {g s : ByteArray} {rows : List (List Int)} : (takeRows ns [g, s] rows).map (kvOf 0 1) = rows.map (kvOf (colOf ns g).toNat (colOf ns s).toNat) := by
  unfold takeRows
  rw [List.map_map]
  rfl
/-- The runs do not depend on which sorted list of the pairs is taken. -/
theorem pairs_runs {ns : List ByteArray} {g s : ByteArray} {rows Y : List (List Int)} {L : List KV} (hY : Y.Perm (takeRows ns [g, s] rows)) (hs : Y.Pairwise (fun x y => lessL y x = false)) (hp : L.Perm (rows.map (kvOf (colOf ns g).toNat (colOf ns s).toNat))) (hL : KSorted L) :
    runs (Y.map (kvOf 0 1)) 0 0 = runs L 0 0 := by
  refine runs_perm _ _ _ (Nat.le_refl _) ?_ (pairs_sorted hs ?_) hL
  · refine (hY.map _).trans ?_
    rw [takePairs]
    exact hp.symm
  · intro y hy
    have := hY.mem_iff.1 hy
    unfold takeRows at this
    obtain ⟨r, -, rfl⟩ := List.mem_map.1 this
    rfl
/-- What one pair does to the groups. -/
def gStep (acc : List (List Int)) (p : KV) : List (List Int) :=
  match acc.getLast? with
  | some [k, c, s] => if k = p.1 then acc.dropLast ++ [[k, c + 1, s + p.2]] else acc ++ [[p.1, 1, p.2]]
  | _ => acc ++ [[p.1, 1, p.2]]
theorem gStep_t {A : List (List Int)} {k c s x : Int} : gStep (A ++ [[k, c, s]]) (k, x) = A ++ [[k, c + 1, s + x]] := by
  unfold gStep
  rw [List.getLast?_append]
  simp
theorem gStep_f {A : List (List Int)} {k c s : Int} {p : KV} (h : k ≠ p.1) : gStep (A ++ [[k, c, s]]) p = A ++ [[k, c, s]] ++ [[p.1, 1, p.2]] := by
  unfold gStep
  rw [List.getLast?_append]
  simp [h]
theorem gStep_runs : ∀ (L : List KV) (A : List (List Int)) (k c s x : Int), L.foldl gStep (A ++ [[k, c, s]]) = A ++ runs ((k, x) :: L) (c - 1) (s - x)
  | [], A, k, c, s, x => by
    rw [runs]
    rw [show c - 1 + 1 = c by omega, show s - x + x = s by omega]
    rfl
  | (a, b) :: L, A, k, c, s, x => by
    rw [List.foldl_cons, runs]
    by_cases h : a = k
    · subst h
      rw [gStep_t, gStep_runs L A a (c + 1) (s + b) b, if_pos rfl, show c + 1 - 1 = c - 1 + 1 by omega, show s + b - b = s - x + x by omega]
    · rw [gStep_f (p := (a, b)) (fun e => h e.symm), gStep_runs L (A ++ [[k, c, s]]) a 1 b b, if_neg h, List.append_assoc, show (1 : Int) - 1 = 0 by rfl, show b - b = 0 by omega, show c - 1 + 1 = c by omega, show s - x + x = s by omega]
      rfl
theorem groups_fold (L : List KV) : L.foldl gStep [] = runs L 0 0 := by
  cases L with
  | nil => rfl
  | cons p L =>
    have h := gStep_runs L [] p.1 1 p.2 p.2
    rw [show (1 : Int) - 1 = 0 by rfl, show p.2 - p.2 = 0 by omega] at h
    exact h
/-- Groups of n pairs so far: rows of three cells, none great. -/
def accOk (n : Nat) (acc : List (List Int)) : Prop := ∀ r ∈ acc, ∃ x c s : Int, r = [x, c, s] ∧ (-100000 ≤ x ∧ x ≤ 100000) ∧ (0 ≤ c ∧ c ≤ n) ∧ -(100000 * (n : Int)) ≤ s ∧ s ≤ 100000 * (n : Int)
theorem accOk_nil : accOk 0 [] := fun _ h => by cases h
theorem accOk_mono {n m : Nat} {acc : List (List Int)} (h : accOk n acc) (hm : n ≤ m) : accOk m acc := fun r hr => by
  obtain ⟨x, c, s, e, h1, h2, h3, h4⟩ := h r hr
  exact ⟨x, c, s, e, h1, ⟨h2.1, by omega⟩, by omega, by omega⟩
theorem accOk_step {n : Nat} {acc : List (List Int)} {p : KV} (h : accOk n acc) (h1 : -100000 ≤ p.1 ∧ p.1 ≤ 100000) (h2 : -100000 ≤ p.2 ∧ p.2 ≤ 100000) : accOk (n + 1) (gStep acc p) := by
  rcases List.eq_nil_or_concat acc with rfl | ⟨init, r, rfl⟩
  · intro r hr
    obtain rfl : r = [p.1, 1, p.2] := by simpa [gStep] using hr
    exact ⟨_, _, _, rfl, h1, by omega, by omega, by omega⟩
  · rw [List.concat_eq_append] at h ⊢
    obtain ⟨x, c, s, rfl, k1, k2, k3, k4⟩ := h r (by simp)
    obtain ⟨a, b⟩ := p
    by_cases hx : x = a
    · subst hx
      rw [gStep_t]
      intro r hr
      rcases List.mem_append.1 hr with hr | hr
      · exact accOk_mono h (Nat.le_succ n) r (by simp [hr])
      · rw [List.mem_singleton.1 hr]
        exact ⟨_, _, _, rfl, k1, by omega, by omega, by omega⟩
    · rw [gStep_f (p := (a, b)) hx]
      intro r hr
      rcases List.mem_append.1 hr with hr | hr
      · exact accOk_mono h (Nat.le_succ n) r hr
      · rw [List.mem_singleton.1 hr]
        exact ⟨_, _, _, rfl, h1, by omega, by omega, by omega⟩
theorem gStep_nil {a b : Int} : gStep [] (a, b) = [] ++ [[a, 1, b]] := rfl
theorem gFold_succ {Y : List (List Int)} {k : Nat} {a b : Int} (h : Y[k]? = some [a, b]) : ((Y.take (k + 1)).map (kvOf 0 1)).foldl gStep [] = gStep (((Y.take k).map (kvOf 0 1)).foldl gStep []) (a, b) := by
  rw [List.take_add_one, h, List.map_append, List.foldl_append]
  rfl
end Go.Proofs.YtldknaajnnohiaaDoor
end
