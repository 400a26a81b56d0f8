/- Sorted padded tables: real rows stand first (plain laws). -/
import Derived.Test.YtldknaajnnohiaaDoorSPl
import Derived.Test.YtldknaajnnohiaaDoorCutI
import Derived.Test.YtldknaajnnohiaaDoorSrL
section
namespace Go.Proofs.YtldknaajnnohiaaDoor
open Go.RowKit

theorem bools_front : ∀ {l : List Bool}, l.Pairwise (fun a b => ¬(a = false ∧ b = true)) → l = List.replicate (l.countP id) true ++ List.replicate (l.length - l.countP id) false
  | [], _ => rfl
  | true :: l, h => by
    have ih := bools_front (List.pairwise_cons.1 h).2
    have hc : (true :: l).countP id = l.countP id + 1 := by rw [List.countP_cons]; rfl
    rw [hc, List.length_cons, Nat.add_sub_add_right, List.replicate_succ, List.cons_append, ← ih]
  | false :: l, h => by
    have h1 := (List.pairwise_cons.1 h).1
    have h2 : ∀ b ∈ l, b = false := fun b hb => by
      cases b
      · rfl
      · exact absurd ⟨rfl, rfl⟩ (h1 true hb)
    have hc0 : l.countP id = 0 := List.countP_eq_zero.2 (fun b hb => by rw [h2 b hb]; simp)
    have hc : (false :: l).countP id = 0 := by rw [List.countP_cons, hc0]; rfl
    have hl : l = List.replicate l.length false := List.eq_replicate_iff.2 ⟨rfl, h2⟩
    rw [hc, List.length_cons, Nat.sub_zero, List.replicate_zero, List.nil_append, List.replicate_succ, ← hl]
theorem sortP_reals {c : Int} {down : Bool} {p : PaddedD} (h : paddedOk p = true) : (sortP c down p).2.2.countP id = p.2.2.countP id := by
  obtain ⟨ns, rows, real⟩ := p
  have h3 := (paddedOk_all4 h).2.2.1
  unfold sortP
  dsimp only
  have h1 := ((sortZ_perm (c := c) (down := down) (Z := rows.zip real)).map Prod.snd).countP_eq id
  rw [snd_zip h3] at h1
  exact h1
theorem sortP_front {c : Int} {down : Bool} {p : PaddedD} : (sortP c down p).2.2 = List.replicate ((sortP c down p).2.2.countP id) true ++ List.replicate ((sortP c down p).2.2.length - (sortP c down p).2.2.countP id) false := by
  refine bools_front ?_
  unfold sortP
  dsimp only
  rw [List.pairwise_map]
  refine (sortZ_sorted (c := c) (down := down)).imp ?_
  rintro ⟨a, ra⟩ ⟨b, rb⟩ h ⟨h1, h2⟩
  dsimp only at h1 h2
  subst h1 h2
  have h3 := ltR_real (c := c) (down := down) (a := (b, true)) (b := (a, false)) (by simp)
  rw [h] at h3
  cases h3
theorem sortP_cut {c : Int} {down : Bool} {p : PaddedD} {n : Nat} (h : paddedOk p = true) (hn : p.2.2.countP id = n) : ((sortP c down p).2.2.drop n).any id = false ∧ ((sortP c down p).2.2.take n).countP id = n ∧ n ≤ (sortP c down p).2.2.length := by
  have h1 := sortP_reals (c := c) (down := down) h
  have h2 := sortP_front (c := c) (down := down) (p := p)
  rw [h1, hn] at h2
  have h3 : n ≤ (sortP c down p).2.2.length := by rw [← hn, ← h1]; exact List.countP_le_length
  refine ⟨?_, ?_, h3⟩
  · rw [h2, List.drop_left' (by rw [List.length_replicate])]
    simp
  · rw [h2, List.take_left' (by rw [List.length_replicate])]
    rw [List.countP_replicate]; simp
end Go.Proofs.YtldknaajnnohiaaDoor
end

section
namespace Go.Proofs.YtldknaajnnohiaaDoor
open Go.RowKit

/-- How many rows are real; -1 for a table that is none. -/
def realF (p : PaddedD) : Int := if paddedOk p then ((p.2.2.countP id : Nat) : Int) else -1
theorem realF_t {p : PaddedD} (h : paddedOk p = true) : realF p = ((p.2.2.countP id : Nat) : Int) := by unfold realF; rw [if_pos h]
theorem realF_f {p : PaddedD} (h : paddedOk p = false) : realF p = -1 := by unfold realF; rw [h]; rfl
set_option maxHeartbeats 1000000 in
set_option maxRecDepth 8000 in
theorem impl_RealRows (w : World) (hR : ResOk w) (A1 A2 A3 : Option Addr) (c1 c2 c3 : Nat) (F G H' : List Nat) (ns : List ByteArray) (rows : List (List Int)) (real : List Bool) (hx : SliceHas Rep.str w F [.slice A1 ns.length c1] ns) (hy : SliceHas Rep.int.slice w G [.slice A2 rows.length c2] rows) (hz : SliceHas Rep.bool w H' [.slice A3 real.length c3] real) :
    Calls Tryd.prog 38 #[.agg #[.slice A1 ns.length c1, .slice A2 rows.length c2, .slice A3 real.length c3]] w fun e w' => e = .returned (.int .i64 (realF (ns, rows, real))) ∧ Mod [] w w' := by
  have hS : Sat w w [.ro Rep.str.slice [.slice A1 ns.length c1] ns, .ro Rep.int.slice.slice [.slice A2 rows.length c2] rows, .ro Rep.bool.slice [.slice A3 real.length c3] real] := (((Sat.nil w).arg hz).arg hy).arg hx
  clear hx hy hz
  cases hp : paddedOk (ns, rows, real)
  · have H := Lib.hid (realF_f hp)
    have Hp := Lib.hid hp
    clear hp
    go_enter Tryd.func38, Tryd.ntmps38
    go_wp2_with (first | (go_at_call 20; obtain ⟨Fq, hFq⟩ := hS.has Rep.str.slice [.slice A1 ns.length c1]; obtain ⟨Fr, hFr⟩ := hS.has Rep.int.slice.slice [.slice A2 rows.length c2]; obtain ⟨Fs, hFs⟩ := hS.has Rep.bool.slice [.slice A3 real.length c3]; refine (impl_PaddedValid' _ (hR.mod0 hS.mod0) A1 A2 A3 c1 c2 c3 Fq Fr Fs ns rows real hFq hFr hFs).mono ?_; rintro e w' ⟨rfl, hM⟩; replace hS := hS.mod hM; clear hM hFq hFr hFs; (simp only [Hp.out])) | ((with_reducible show wpList _ _ _ (⟨_, Op.box _ _, _, _, _, _⟩ :: _) _ _); refine Does.list (does_box hS rfl rfl (by rfl)) rfl ?_; clear hS; rintro _ wx ⟨bo, rfl, hS, _⟩; (simp only [Act.put, List.setIfInBounds_toArray, List.set_cons_zero, List.set_cons_succ])) | ((with_reducible show wpList _ _ _ (⟨_, Op.load _ _, _, _, _, _⟩ :: _) _ _); (first | refine Gives.list (f_load hS rfl rfl (by rfl)) rfl ?_ | refine Gives.list (f_loadS hS rfl rfl (by rfl)) rfl ?_ | refine Gives.list (f_loadAt hS rfl rfl) rfl ?_ | refine Gives.list (f_loadAtS hS rfl rfl (by rfl)) rfl ?_ | refine Gives.list (f_loadAtF hS rfl rfl (by rfl)) rfl ?_); (simp only [Act.put, List.setIfInBounds_toArray, List.set_cons_zero, List.set_cons_succ])) | ((with_reducible show wpList _ _ _ (⟨_, Op.store _ _ _, _, _, _, _⟩ :: _) _ _); (first | refine Does.list (f_store hS rfl rfl rfl (by rfl) (by rfl)) rfl ?_ | refine Does.list (f_storeS hS rfl rfl rfl (by rfl) (by rfl) (by rfl)) rfl ?_); clear hS; rintro _ wx ⟨rfl, hS⟩; (simp only [List.set_cons_zero, List.set_cons_succ] at hS); (simp only [Act.put, List.setIfInBounds_toArray, List.set_cons_zero, List.set_cons_succ])) | ((with_reducible show wpList _ _ _ (⟨_, Op.alloc _, _, _, _, _⟩ :: _) _ _); refine Does.list (does_alloc hS rfl (by rfl)) rfl ?_; clear hS; rintro _ wx ⟨ba, rfl, hS, _⟩; (simp only [Act.put, List.setIfInBounds_toArray, List.set_cons_zero, List.set_cons_succ])) | ((with_reducible show wpList _ _ _ (⟨_, Op.buildSlice _ _ _, _, _, _, _⟩ :: _) _ _); refine Does.list (does_buildSlice (X := ?_) (cs := ?_) (E := ?_) hS rfl ?_ ?_) rfl ?_; rotate_left 3; (go_simp; rfl); rfl; clear hS; rintro _ wx ⟨bx, rfl, hS, _⟩; (simp only [Act.put, List.setIfInBounds_toArray, List.set_cons_zero, List.set_cons_succ])))
    go_ret
    exact ⟨by rw [H.out]; rfl, hS.mod0⟩
  · have H := Lib.hid (realF_t hp)
    have Hp := Lib.hid hp
    clear hp
    go_enter Tryd.func38, Tryd.ntmps38
    go_wp2_with (first | (go_at_call 20; obtain ⟨Fq, hFq⟩ := hS.has Rep.str.slice [.slice A1 ns.length c1]; obtain ⟨Fr, hFr⟩ := hS.has Rep.int.slice.slice [.slice A2 rows.length c2]; obtain ⟨Fs, hFs⟩ := hS.has Rep.bool.slice [.slice A3 real.length c3]; refine (impl_PaddedValid' _ (hR.mod0 hS.mod0) A1 A2 A3 c1 c2 c3 Fq Fr Fs ns rows real hFq hFr hFs).mono ?_; rintro e w' ⟨rfl, hM⟩; replace hS := hS.mod hM; clear hM hFq hFr hFs; (simp only [Hp.out])) | (go_at_call 92; obtain ⟨Fs, hFs⟩ := hS.has Rep.bool.slice [.slice A3 real.length c3]; refine (impl_reals _ _ _ _ _ _ _ _ _ _ Fs real hFs).mono ?_; rintro e w' ⟨rfl, hM⟩; replace hS := hS.mod hM; clear hM hFs) | ((with_reducible show wpList _ _ _ (⟨_, Op.box _ _, _, _, _, _⟩ :: _) _ _); refine Does.list (does_box hS rfl rfl (by rfl)) rfl ?_; clear hS; rintro _ wx ⟨bo, rfl, hS, _⟩; (simp only [Act.put, List.setIfInBounds_toArray, List.set_cons_zero, List.set_cons_succ])) | ((with_reducible show wpList _ _ _ (⟨_, Op.load _ _, _, _, _, _⟩ :: _) _ _); (first | refine Gives.list (f_load hS rfl rfl (by rfl)) rfl ?_ | refine Gives.list (f_loadS hS rfl rfl (by rfl)) rfl ?_ | refine Gives.list (f_loadAt hS rfl rfl) rfl ?_ | refine Gives.list (f_loadAtS hS rfl rfl (by rfl)) rfl ?_ | refine Gives.list (f_loadAtF hS rfl rfl (by rfl)) rfl ?_); (simp only [Act.put, List.setIfInBounds_toArray, List.set_cons_zero, List.set_cons_succ])) | ((with_reducible show wpList _ _ _ (⟨_, Op.store _ _ _, _, _, _, _⟩ :: _) _ _); (first | refine Does.list (f_store hS rfl rfl rfl (by rfl) (by rfl)) rfl ?_ | refine Does.list (f_storeS hS rfl rfl rfl (by rfl) (by rfl) (by rfl)) rfl ?_); clear hS; rintro _ wx ⟨rfl, hS⟩; (simp only [List.set_cons_zero, List.set_cons_succ] at hS); (simp only [Act.put, List.setIfInBounds_toArray, List.set_cons_zero, List.set_cons_succ])) | ((with_reducible show wpList _ _ _ (⟨_, Op.alloc _, _, _, _, _⟩ :: _) _ _); refine Does.list (does_alloc hS rfl (by rfl)) rfl ?_; clear hS; rintro _ wx ⟨ba, rfl, hS, _⟩; (simp only [Act.put, List.setIfInBounds_toArray, List.set_cons_zero, List.set_cons_succ])) | ((with_reducible show wpList _ _ _ (⟨_, Op.buildSlice _ _ _, _, _, _, _⟩ :: _) _ _); refine Does.list (does_buildSlice (X := ?_) (cs := ?_) (E := ?_) hS rfl ?_ ?_) rfl ?_; rotate_left 3; (go_simp; rfl); rfl; clear hS; rintro _ wx ⟨bx, rfl, hS, _⟩; (simp only [Act.put, List.setIfInBounds_toArray, List.set_cons_zero, List.set_cons_succ])))
    go_ret
    exact ⟨by rw [H.out]; rfl, hS.mod0⟩

/-! ### Sorted again, cut -/
theorem sortF_ok {p : PaddedD} {col : ByteArray} {down : Bool} {q : PaddedD} {tr : List AccessD} (h : sortF p col down = (q, tr, true)) : paddedOk p = true ∧ q = sortP (colOf p.1 col) down p ∧ paddedOk q = true ∧ q.1 = p.1 ∧ sortOk p col = true := by
  cases hs : sortOk p col
  · rw [sortF_f hs] at h; cases h
  · rw [sortF_t hs] at h
    have hp : paddedOk p = true := by
      unfold sortOk at hs
      simp only [Bool.and_eq_true] at hs
      exact hs.1
    have hq : q = sortP (colOf p.1 col) down p := by cases h; rfl
    exact ⟨hp, hq, by rw [hq]; exact sortP_ok hp, by rw [hq]; rfl, rfl⟩
theorem sortF_again {p : PaddedD} {col : ByteArray} {down : Bool} {q : PaddedD} {tr : List AccessD} (h : sortF p col down = (q, tr, true)) : ∃ tr2, sortF q col down = (q, tr2, true) := by
  obtain ⟨h1, h2, h3, h4, h5⟩ := sortF_ok h
  have h6 : sortOk q col = true := by
    unfold sortOk at h5 ⊢
    simp only [Bool.and_eq_true] at h5 ⊢
    rw [h4]
    exact ⟨h3, h5.2⟩
  refine ⟨pairF (netF q.2.1.length), ?_⟩
  rw [sortF_t h6, h4]
  have h7 : sortP (colOf p.1 col) down q = q := by rw [h2]; exact sortP_again
  rw [h7]
theorem cut_okP {ns : List ByteArray} {rows : List (List Int)} {real : List Bool} {M : Nat} (h : paddedOk (ns, rows, real) = true) : paddedOk (ns, rows.take M, real.take M) = true := by
  obtain ⟨h1, h2, h3, -⟩ := paddedOk_all4 h
  have hz := padded_of_zip (ns := ns) (Z := (rows.zip real).take M) h1 (by rw [List.length_take, List.length_zip]; omega) (fun a ha => padded_zip h a (List.mem_of_mem_take ha))
  rw [List.map_take, List.map_take, fst_zip h3, snd_zip h3] at hz
  exact hz
theorem sort_cut {p q : PaddedD} {col : ByteArray} {down : Bool} {tr : List AccessD} {n : Nat} (h : sortF p col down = (q, tr, true)) (hn : p.2.2.countP id = n) : cutF q (n : Int) = ((q.1, q.2.1.take n, q.2.2.take n), true) ∧ (q.2.1.take n).length = n ∧ paddedOk (q.1, q.2.1.take n, q.2.2.take n) = true ∧ (q.2.2.take n).countP id = n := by
  obtain ⟨h1, h2, h3, h4, -⟩ := sortF_ok h
  obtain ⟨h5, h6, h7⟩ := sortP_cut (c := colOf p.1 col) (down := down) h1 hn
  rw [← h2] at h5 h6 h7
  obtain ⟨ms, rs, re⟩ := q
  dsimp only at h4 h5 h6 h7 ⊢
  obtain ⟨k1, k2, k3, -⟩ := paddedOk_all4 h3
  refine ⟨cutF_ok h3 (inB_true ⟨by omega, by omega⟩) (by unfold cutM; omega) h5, by rw [List.length_take]; omega, cut_okP h3, h6⟩
end Go.Proofs.YtldknaajnnohiaaDoor
end
