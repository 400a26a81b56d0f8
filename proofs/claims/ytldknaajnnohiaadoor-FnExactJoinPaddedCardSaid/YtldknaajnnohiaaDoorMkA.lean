/- Contracts of mark.. and held.. for data without texts. -/
import Derived.Test.YtldknaajnnohiaaDoorMkDefs
import Derived.Test.YtldknaajnnohiaaDoorRows
namespace Go.Proofs.YtldknaajnnohiaaDoor
open Go.RowKit
attribute [local go_sem] ext_cell

set_option maxHeartbeats 2000000 in
theorem markIntS_any (w : World) (F : List Nat) (v : Value) (xs : List Int) (k : Int) (hx : SliceHas Rep.int w F [v] xs) (hF : Good w F) (h0 : 0 ≤ k) (h1 : k + ((ctL ct1) xs : Int) ≤ 4611686018427387904) :
    Calls Tryd.prog 170 #[v, .int .i64 k] w fun e w' => e = .returned (.int .i64 (k + ((ctL ct1) xs : Int))) ∧ SliceHas Rep.int w' F [v] ((mkL mkI ct1) k xs) ∧ Good w' F ∧ Mod F w w' := by
  obtain ⟨A, c, rfl, hn, _⟩ := hx.form'
  go_enter Tryd.func170, Tryd.ntmps170
  go_wp2_with fail
  go_loopw [1, 5] (fun kk i wr => ∃ (j : Nat) (K : Int), j ≤ xs.length ∧ i = .int .i64 j ∧ kk = .int .i64 K ∧ Hid (K = k + ((ctL ct1) (xs.take j) : Int)) ∧ 0 ≤ K ∧ SliceHas Rep.int wr F [.slice A xs.length c] (mkL mkI ct1 k (xs.take j) ++ xs.drop j) ∧ Good wr F ∧ Mod F w wr) (fun _ i _ => xs.length - (intOf i).toNat)
  case atStart => exact ⟨0, k, Nat.zero_le _, rfl, rfl, (show _ = _ by simp [ctL]), h0, by simpa [mkL] using hx, hF, Mod.refl _ _⟩
  case round =>
    obtain ⟨j, K, hj, rfl, rfl, HK, K0, hs, hg, hm⟩ := hrel
    by_cases hlt : j < xs.length
    · have hq : K + (ct1 xs[j] : Int) ≤ 4611686018427387904 := by
        have a1 := ctL_succ ct1 xs j hlt
        have a2 := ctL_take_le ct1 xs (j + 1)
        have a3 := HK.out
        omega
      have Hq2 := Lib.hid (show K + (ct1 xs[j] : Int) = k + ((ctL ct1) (xs.take (j + 1)) : Int) by
        have a1 := ctL_succ ct1 xs j hlt
        have a3 := HK.out
        omega)
      obtain ⟨ad, rfl⟩ : ∃ ad, A = some ad := by
        obtain ⟨ad, _, _, h, _⟩ := hs.get hlt
        exact ⟨ad, h⟩
      have hx0 := get_mid (mkL mkI ct1 k (xs.take j)) xs j (by rw [mkL_len, List.length_take]; omega) hlt
      have Hfin := Lib.hid (show (mkL mkI ct1 k (xs.take j) ++ xs.drop j).set j (mkI K xs[j]) = mkL mkI ct1 k (xs.take (j + 1)) ++ xs.drop (j + 1) by
        rw [list_set_take _ _ _ _ (by rw [mkL_len, List.length_take]; omega) hlt, mkL_succ _ _ _ _ _ hlt, ← HK.out])
      have hlen : j < (mkL mkI ct1 k (xs.take j) ++ xs.drop j).length := by rw [hs.n]; exact hlt
      have hC : (ct1 xs[j] : Int) = 1 := rfl
      obtain ⟨⟨old, ho⟩, hfz, hs2, hg2, hm2⟩ := hs.store' hg hlt (j := 0) (by decide) (.int .i64 K) xs[j] (mkI K xs[j]) hx0 (by rintro w Fk ck ⟨rfl, rfl, _⟩; exact ⟨rfl, rfl, (show I64 K from I64.mk (by omega) (by omega))⟩)
      simp only [show Rep.int.size = 1 from rfl, Nat.mul_one, add_zero'] at ho hfz hs2 hg2 hm2
      rw [Hfin.out] at hs2
      replace hm := hm.seq hm2
      clear hs hg hm2
      have hs := hs2
      have hg := hg2
      clear hs2 hg2
      have Hs := Lib.hid hs
      have Hg := Lib.hid hg
      have Hm := Lib.hid hm
      clear hs hg hm
      rw [hC] at hq
      have Hq3 : Hid (K + 1 = k + ((ctL ct1) (xs.take (j + 1)) : Int)) := by rw [← hC]; exact Hq2
      clear hC
      go_wp2_with fail
      go_roundw
      case rel => exact ⟨j + 1, K + 1, hlt, by go_num, rfl, Hq3, by omega, Hs.out, Hg.out, Hm.out⟩
      case measure => simp [intOf]; omega
    · obtain rfl : j = xs.length := by omega
      have hK := HK.out
      rw [List.take_length] at hK
      rw [List.take_length, List.drop_of_length_le (Nat.le_refl _), List.append_nil] at hs
      have HK2 := Lib.hid hK
      clear hK
      go_wp2_with fail
      go_ret
      exact ⟨ret_int HK2.out, hs, hg, hm⟩

set_option maxHeartbeats 2000000 in
theorem heldIntS_any (w : World) (F : List Nat) (v : Value) (xs : List Int) (k : Int) (hx : SliceHas Rep.int w F [v] ((mkL mkI ct1) k xs)) (h0 : 0 ≤ k) (h1 : k + ((ctL ct1) xs : Int) ≤ 4611686018427387904) :
    Calls Tryd.prog 171 #[v, .int .i64 k] w fun e w' => e = .returned (.int .i64 (k + ((ctL ct1) xs : Int))) ∧ Mod [] w w' := by
  obtain ⟨A, c, rfl, hn, _⟩ := hx.form'
  have hml := mkL_len mkI ct1 xs k
  rw [hml] at hx hn
  have Hml := Lib.hid hml
  rw [hml]
  clear hml
  go_enter Tryd.func171, Tryd.ntmps171
  go_wp2_with fail
  go_loopw [1, 5] (fun kk i wr => ∃ (j : Nat) (K : Int), j ≤ xs.length ∧ i = .int .i64 j ∧ kk = .int .i64 K ∧ Hid (K = k + ((ctL ct1) (xs.take j) : Int)) ∧ 0 ≤ K ∧ Mod [] w wr) (fun _ i _ => xs.length - (intOf i).toNat)
  case atStart => exact ⟨0, k, Nat.zero_le _, rfl, rfl, (show _ = _ by simp [ctL]), h0, Mod.refl _ _⟩
  case round =>
    obtain ⟨j, K, hj, rfl, rfl, HK, K0, hB⟩ := hrel
    by_cases hlt : j < xs.length
    · have hq : K + (ct1 xs[j] : Int) ≤ 4611686018427387904 := by
        have a1 := ctL_succ ct1 xs j hlt
        have a2 := ctL_take_le ct1 xs (j + 1)
        have a3 := HK.out
        omega
      have Hq2 := Lib.hid (show K + (ct1 xs[j] : Int) = k + ((ctL ct1) (xs.take (j + 1)) : Int) by
        have a1 := ctL_succ ct1 xs j hlt
        have a3 := HK.out
        omega)
      have hx' : SliceHas Rep.int wr F [.slice A xs.length c] ((mkL mkI ct1) k xs) := Rep.slice Rep.int |>.mod0 hx hB
      obtain ⟨ad, Fk, ck, rfl, _, _, _, hca, hxk⟩ := hx'.get hlt
      rw [mkL_get mkI ct1 xs k j hlt, ← HK.out] at hxk
      obtain ⟨rfl, rfl, _⟩ := hxk
      have a0 := hca.zero
      simp only [show Rep.int.size = 1 from rfl, Nat.mul_one, mkI, mkB] at a0
      clear hca
      have hC : (ct1 xs[j] : Int) = 1 := rfl
      rw [hC] at hq
      have Hq3 : Hid (K + 1 = k + ((ctL ct1) (xs.take (j + 1)) : Int)) := by rw [← hC]; exact Hq2
      clear hC
      go_wp2_with fail
      go_roundw
      case rel => exact ⟨j + 1, _, hlt, by go_num, rfl, Hq3, by omega, hB⟩
      case measure => simp [intOf]; omega
    · obtain rfl : j = xs.length := by omega
      have hK := HK.out
      rw [List.take_length] at hK
      have HK2 := Lib.hid hK
      clear hK
      go_wp2_with fail
      go_ret
      exact ⟨ret_int HK2.out, hB⟩

set_option maxHeartbeats 2000000 in
theorem markBoolS_any (w : World) (F : List Nat) (v : Value) (xs : List Bool) (k : Int) (hx : SliceHas Rep.bool w F [v] xs) (hF : Good w F) (h0 : 0 ≤ k) (h1 : k + ((ctL ct1) xs : Int) ≤ 4611686018427387904) :
    Calls Tryd.prog 114 #[v, .int .i64 k] w fun e w' => e = .returned (.int .i64 (k + ((ctL ct1) xs : Int))) ∧ SliceHas Rep.bool w' F [v] ((mkL mkB ct1) k xs) ∧ Good w' F ∧ Mod F w w' := by
  obtain ⟨A, c, rfl, hn, _⟩ := hx.form'
  go_enter Tryd.func114, Tryd.ntmps114
  go_wp2_with fail
  go_loopw [1, 5] (fun kk i wr => ∃ (j : Nat) (K : Int), j ≤ xs.length ∧ i = .int .i64 j ∧ kk = .int .i64 K ∧ Hid (K = k + ((ctL ct1) (xs.take j) : Int)) ∧ 0 ≤ K ∧ SliceHas Rep.bool wr F [.slice A xs.length c] (mkL mkB ct1 k (xs.take j) ++ xs.drop j) ∧ Good wr F ∧ Mod F w wr) (fun _ i _ => xs.length - (intOf i).toNat)
  case atStart => exact ⟨0, k, Nat.zero_le _, rfl, rfl, (show _ = _ by simp [ctL]), h0, by simpa [mkL] using hx, hF, Mod.refl _ _⟩
  case round =>
    obtain ⟨j, K, hj, rfl, rfl, HK, K0, hs, hg, hm⟩ := hrel
    by_cases hlt : j < xs.length
    · have hq : K + (ct1 xs[j] : Int) ≤ 4611686018427387904 := by
        have a1 := ctL_succ ct1 xs j hlt
        have a2 := ctL_take_le ct1 xs (j + 1)
        have a3 := HK.out
        omega
      have Hq2 := Lib.hid (show K + (ct1 xs[j] : Int) = k + ((ctL ct1) (xs.take (j + 1)) : Int) by
        have a1 := ctL_succ ct1 xs j hlt
        have a3 := HK.out
        omega)
      obtain ⟨ad, rfl⟩ : ∃ ad, A = some ad := by
        obtain ⟨ad, _, _, h, _⟩ := hs.get hlt
        exact ⟨ad, h⟩
      have hx0 := get_mid (mkL mkB ct1 k (xs.take j)) xs j (by rw [mkL_len, List.length_take]; omega) hlt
      have Hfin := Lib.hid (show (mkL mkB ct1 k (xs.take j) ++ xs.drop j).set j (mkB K xs[j]) = mkL mkB ct1 k (xs.take (j + 1)) ++ xs.drop (j + 1) by
        rw [list_set_take _ _ _ _ (by rw [mkL_len, List.length_take]; omega) hlt, mkL_succ _ _ _ _ _ hlt, ← HK.out])
      have hlen : j < (mkL mkB ct1 k (xs.take j) ++ xs.drop j).length := by rw [hs.n]; exact hlt
      have hC : (ct1 xs[j] : Int) = 1 := rfl
      obtain ⟨⟨old, ho⟩, hfz, hs2, hg2, hm2⟩ := hs.store' hg hlt (j := 0) (by decide) (.bool (K % 3 == 0)) xs[j] (mkB K xs[j]) hx0 (by rintro w Fk ck ⟨rfl, rfl⟩; exact ⟨rfl, rfl⟩)
      simp only [show Rep.bool.size = 1 from rfl, Nat.mul_one, add_zero'] at ho hfz hs2 hg2 hm2
      rw [Hfin.out] at hs2
      replace hm := hm.seq hm2
      clear hs hg hm2
      have hs := hs2
      have hg := hg2
      clear hs2 hg2
      have Hs := Lib.hid hs
      have Hg := Lib.hid hg
      have Hm := Lib.hid hm
      clear hs hg hm
      rw [hC] at hq
      have Hq3 : Hid (K + 1 = k + ((ctL ct1) (xs.take (j + 1)) : Int)) := by rw [← hC]; exact Hq2
      clear hC
      go_wp2_with fail
      go_roundw
      case rel => exact ⟨j + 1, K + 1, hlt, by go_num, rfl, Hq3, by omega, Hs.out, Hg.out, Hm.out⟩
      case measure => simp [intOf]; omega
    · obtain rfl : j = xs.length := by omega
      have hK := HK.out
      rw [List.take_length] at hK
      rw [List.take_length, List.drop_of_length_le (Nat.le_refl _), List.append_nil] at hs
      have HK2 := Lib.hid hK
      clear hK
      go_wp2_with fail
      go_ret
      exact ⟨ret_int HK2.out, hs, hg, hm⟩

set_option maxHeartbeats 2000000 in
theorem heldBoolS_any (w : World) (F : List Nat) (v : Value) (xs : List Bool) (k : Int) (hx : SliceHas Rep.bool w F [v] ((mkL mkB ct1) k xs)) (h0 : 0 ≤ k) (h1 : k + ((ctL ct1) xs : Int) ≤ 4611686018427387904) :
    Calls Tryd.prog 117 #[v, .int .i64 k] w fun e w' => e = .returned (.int .i64 (k + ((ctL ct1) xs : Int))) ∧ Mod [] w w' := by
  obtain ⟨A, c, rfl, hn, _⟩ := hx.form'
  have hml := mkL_len mkB ct1 xs k
  rw [hml] at hx hn
  have Hml := Lib.hid hml
  rw [hml]
  clear hml
  go_enter Tryd.func117, Tryd.ntmps117
  go_wp2_with fail
  go_loopw [1, 5] (fun kk i wr => ∃ (j : Nat) (K : Int), j ≤ xs.length ∧ i = .int .i64 j ∧ kk = .int .i64 K ∧ Hid (K = k + ((ctL ct1) (xs.take j) : Int)) ∧ 0 ≤ K ∧ Mod [] w wr) (fun _ i _ => xs.length - (intOf i).toNat)
  case atStart => exact ⟨0, k, Nat.zero_le _, rfl, rfl, (show _ = _ by simp [ctL]), h0, Mod.refl _ _⟩
  case round =>
    obtain ⟨j, K, hj, rfl, rfl, HK, K0, hB⟩ := hrel
    by_cases hlt : j < xs.length
    · have hq : K + (ct1 xs[j] : Int) ≤ 4611686018427387904 := by
        have a1 := ctL_succ ct1 xs j hlt
        have a2 := ctL_take_le ct1 xs (j + 1)
        have a3 := HK.out
        omega
      have Hq2 := Lib.hid (show K + (ct1 xs[j] : Int) = k + ((ctL ct1) (xs.take (j + 1)) : Int) by
        have a1 := ctL_succ ct1 xs j hlt
        have a3 := HK.out
        omega)
      have hx' : SliceHas Rep.bool wr F [.slice A xs.length c] ((mkL mkB ct1) k xs) := Rep.slice Rep.bool |>.mod0 hx hB
      obtain ⟨ad, Fk, ck, rfl, _, _, _, hca, hxk⟩ := hx'.get hlt
      rw [mkL_get mkB ct1 xs k j hlt, ← HK.out] at hxk
      obtain ⟨rfl, rfl⟩ := hxk
      have a0 := hca.zero
      simp only [show Rep.bool.size = 1 from rfl, Nat.mul_one, mkI, mkB] at a0
      clear hca
      have hC : (ct1 xs[j] : Int) = 1 := rfl
      rw [hC] at hq
      have Hq3 : Hid (K + 1 = k + ((ctL ct1) (xs.take (j + 1)) : Int)) := by rw [← hC]; exact Hq2
      clear hC
      go_wp2_with fail
      go_roundw
      case rel => exact ⟨j + 1, _, hlt, by go_num, rfl, Hq3, by omega, hB⟩
      case measure => simp [intOf]; omega
    · obtain rfl : j = xs.length := by omega
      have hK := HK.out
      rw [List.take_length] at hK
      have HK2 := Lib.hid hK
      clear hK
      go_wp2_with fail
      go_ret
      exact ⟨ret_int HK2.out, hB⟩

set_option maxHeartbeats 2000000 in
theorem markIntSS_any (w : World) (F : List Nat) (v : Value) (xs : List (List Int)) (k : Int) (hx : SliceHas (Rep.int.slice) w F [v] xs) (hF : Good w F) (h0 : 0 ≤ k) (h1 : k + ((ctL (ctL ct1)) xs : Int) ≤ 4611686018427387904) :
    Calls Tryd.prog 113 #[v, .int .i64 k] w fun e w' => e = .returned (.int .i64 (k + ((ctL (ctL ct1)) xs : Int))) ∧ SliceHas (Rep.int.slice) w' F [v] ((mkL (mkL mkI ct1) (ctL ct1)) k xs) ∧ Good w' F ∧ Mod F w w' := by
  obtain ⟨A, c, rfl, hn, _⟩ := hx.form'
  go_enter Tryd.func113, Tryd.ntmps113
  go_wp2_with fail
  go_loopw [1, 5] (fun kk i wr => ∃ (j : Nat) (K : Int), j ≤ xs.length ∧ i = .int .i64 j ∧ kk = .int .i64 K ∧ Hid (K = k + ((ctL (ctL ct1)) (xs.take j) : Int)) ∧ 0 ≤ K ∧ SliceHas (Rep.int.slice) wr F [.slice A xs.length c] (mkL (mkL mkI ct1) (ctL ct1) k (xs.take j) ++ xs.drop j) ∧ Good wr F ∧ Mod F w wr) (fun _ i _ => xs.length - (intOf i).toNat)
  case atStart => exact ⟨0, k, Nat.zero_le _, rfl, rfl, (show _ = _ by simp [ctL]), h0, by simpa [mkL] using hx, hF, Mod.refl _ _⟩
  case round =>
    obtain ⟨j, K, hj, rfl, rfl, HK, K0, hs, hg, hm⟩ := hrel
    by_cases hlt : j < xs.length
    · have hq : K + ((ctL ct1) xs[j] : Int) ≤ 4611686018427387904 := by
        have a1 := ctL_succ (ctL ct1) xs j hlt
        have a2 := ctL_take_le (ctL ct1) xs (j + 1)
        have a3 := HK.out
        omega
      have Hq2 := Lib.hid (show K + ((ctL ct1) xs[j] : Int) = k + ((ctL (ctL ct1)) (xs.take (j + 1)) : Int) by
        have a1 := ctL_succ (ctL ct1) xs j hlt
        have a3 := HK.out
        omega)
      obtain ⟨ad, rfl⟩ : ∃ ad, A = some ad := by
        obtain ⟨ad, _, _, h, _⟩ := hs.get hlt
        exact ⟨ad, h⟩
      have hx0 := get_mid (mkL (mkL mkI ct1) (ctL ct1) k (xs.take j)) xs j (by rw [mkL_len, List.length_take]; omega) hlt
      have Hfin := Lib.hid (show (mkL (mkL mkI ct1) (ctL ct1) k (xs.take j) ++ xs.drop j).set j ((mkL mkI ct1) K xs[j]) = mkL (mkL mkI ct1) (ctL ct1) k (xs.take (j + 1)) ++ xs.drop (j + 1) by
        rw [list_set_take _ _ _ _ (by rw [mkL_len, List.length_take]; omega) hlt, mkL_succ _ _ _ _ _ hlt, ← HK.out])
      have hlen : j < (mkL (mkL mkI ct1) (ctL ct1) k (xs.take j) ++ xs.drop j).length := by rw [hs.n]; exact hlt
      obtain ⟨ad2, Fk, ck, hE, hb, hca, hxk, hgk, hsub, hback⟩ := hs.inner hg hlt xs[j] hx0
      cases hE
      obtain ⟨A2, c2, rfl⟩ : ∃ A2 c2, ck = [.slice A2 xs[j].length c2] := by
        obtain ⟨u, rfl⟩ := Rep.one_cell rfl hxk
        obtain ⟨A2, c2, rfl, _⟩ := SliceHas.form' hxk
        exact ⟨A2, c2, rfl⟩
      have a0 : wr.cell? (ad.add j) = some (.slice A2 xs[j].length c2) := by
        have h := hca.zero
        simpa only [show (Rep.int.slice).size = 1 from rfl, Nat.mul_one] using h
      go_wp2_with fail
      refine (markIntS_any _ Fk _ xs[j] K hxk hgk K0 hq).mono ?_
      rintro e w1 ⟨rfl, hx1, hg1, hm1⟩
      obtain ⟨hs2, hg2, hm2⟩ := hback w1 _ hm1 hg1 hx1
      rw [Hfin.out] at hs2
      replace hm := hm.seq hm2
      clear hs hg hm2
      have hs := hs2
      have hg := hg2
      clear hs2 hg2
      have Hs := Lib.hid hs
      have Hg := Lib.hid hg
      have Hm := Lib.hid hm
      clear hs hg hm
      go_wp2_with fail
      go_roundw
      case rel => exact ⟨j + 1, _, hlt, by go_num, rfl, Hq2, by omega, Hs.out, Hg.out, Hm.out⟩
      case measure => simp [intOf]; omega
    · obtain rfl : j = xs.length := by omega
      have hK := HK.out
      rw [List.take_length] at hK
      rw [List.take_length, List.drop_of_length_le (Nat.le_refl _), List.append_nil] at hs
      have HK2 := Lib.hid hK
      clear hK
      go_wp2_with fail
      go_ret
      exact ⟨ret_int HK2.out, hs, hg, hm⟩

set_option maxHeartbeats 2000000 in
theorem heldIntSS_any (w : World) (F : List Nat) (v : Value) (xs : List (List Int)) (k : Int) (hx : SliceHas (Rep.int.slice) w F [v] ((mkL (mkL mkI ct1) (ctL ct1)) k xs)) (h0 : 0 ≤ k) (h1 : k + ((ctL (ctL ct1)) xs : Int) ≤ 4611686018427387904) :
    Calls Tryd.prog 116 #[v, .int .i64 k] w fun e w' => e = .returned (.int .i64 (k + ((ctL (ctL ct1)) xs : Int))) ∧ Mod [] w w' := by
  obtain ⟨A, c, rfl, hn, _⟩ := hx.form'
  have hml := mkL_len (mkL mkI ct1) (ctL ct1) xs k
  rw [hml] at hx hn
  have Hml := Lib.hid hml
  rw [hml]
  clear hml
  go_enter Tryd.func116, Tryd.ntmps116
  go_wp2_with fail
  go_loopw [1, 5] (fun kk i wr => ∃ (j : Nat) (K : Int), j ≤ xs.length ∧ i = .int .i64 j ∧ kk = .int .i64 K ∧ Hid (K = k + ((ctL (ctL ct1)) (xs.take j) : Int)) ∧ 0 ≤ K ∧ Mod [] w wr) (fun _ i _ => xs.length - (intOf i).toNat)
  case atStart => exact ⟨0, k, Nat.zero_le _, rfl, rfl, (show _ = _ by simp [ctL]), h0, Mod.refl _ _⟩
  case round =>
    obtain ⟨j, K, hj, rfl, rfl, HK, K0, hB⟩ := hrel
    by_cases hlt : j < xs.length
    · have hq : K + ((ctL ct1) xs[j] : Int) ≤ 4611686018427387904 := by
        have a1 := ctL_succ (ctL ct1) xs j hlt
        have a2 := ctL_take_le (ctL ct1) xs (j + 1)
        have a3 := HK.out
        omega
      have Hq2 := Lib.hid (show K + ((ctL ct1) xs[j] : Int) = k + ((ctL (ctL ct1)) (xs.take (j + 1)) : Int) by
        have a1 := ctL_succ (ctL ct1) xs j hlt
        have a3 := HK.out
        omega)
      have hx' : SliceHas (Rep.int.slice) wr F [.slice A xs.length c] ((mkL (mkL mkI ct1) (ctL ct1)) k xs) := Rep.slice (Rep.int.slice) |>.mod0 hx hB
      obtain ⟨ad, Fk, ck, rfl, _, _, _, hca, hxk⟩ := hx'.get hlt
      rw [mkL_get (mkL mkI ct1) (ctL ct1) xs k j hlt, ← HK.out] at hxk
      obtain ⟨u, rfl⟩ := Rep.one_cell rfl hxk
      have a0 := hca.zero
      simp only [show (Rep.int.slice).size = 1 from rfl, Nat.mul_one] at a0
      clear hca
      go_wp2_with fail
      refine (heldIntS_any _ Fk _ xs[j] K hxk K0 hq).mono ?_
      rintro e w1 ⟨rfl, hm1⟩
      replace hB := hB.seq hm1
      go_wp2_with fail
      go_roundw
      case rel => exact ⟨j + 1, _, hlt, by go_num, rfl, Hq2, by omega, hB⟩
      case measure => simp [intOf]; omega
    · obtain rfl : j = xs.length := by omega
      have hK := HK.out
      rw [List.take_length] at hK
      have HK2 := Lib.hid hK
      clear hK
      go_wp2_with fail
      go_ret
      exact ⟨ret_int HK2.out, hB⟩



set_option maxHeartbeats 2000000 in
theorem markAccessS_any (w : World) (F : List Nat) (v : Value) (xs : List AccessD) (k : Int) (hx : SliceHas rAccess w F [v] xs) (hF : Good w F) (h0 : 0 ≤ k) (h1 : k + ((ctL ctAccess) xs : Int) ≤ 4611686018427387904) :
    Calls Tryd.prog 47 #[v, .int .i64 k] w fun e w' => e = .returned (.int .i64 (k + ((ctL ctAccess) xs : Int))) ∧ SliceHas rAccess w' F [v] ((mkL mkAccess ctAccess) k xs) ∧ Good w' F ∧ Mod F w w' := by
  obtain ⟨A, c, rfl, hn, _⟩ := hx.form'
  go_enter Tryd.func47, Tryd.ntmps47
  go_wp2_with fail
  go_loopw [1, 5] (fun kk i wr => ∃ (j : Nat) (K : Int), j ≤ xs.length ∧ i = .int .i64 j ∧ kk = .int .i64 K ∧ Hid (K = k + ((ctL ctAccess) (xs.take j) : Int)) ∧ 0 ≤ K ∧ SliceHas rAccess wr F [.slice A xs.length c] (mkL mkAccess ctAccess k (xs.take j) ++ xs.drop j) ∧ Good wr F ∧ Mod F w wr) (fun _ i _ => xs.length - (intOf i).toNat)
  case atStart => exact ⟨0, k, Nat.zero_le _, rfl, rfl, (show _ = _ by simp [ctL]), h0, by simpa [mkL] using hx, hF, Mod.refl _ _⟩
  case round =>
    obtain ⟨j, K, hj, rfl, rfl, HK, K0, hs, hg, hm⟩ := hrel
    by_cases hlt : j < xs.length
    · have hq : K + (ctAccess xs[j] : Int) ≤ 4611686018427387904 := by
        have a1 := ctL_succ ctAccess xs j hlt
        have a2 := ctL_take_le ctAccess xs (j + 1)
        have a3 := HK.out
        omega
      have Hq2 := Lib.hid (show K + (ctAccess xs[j] : Int) = k + ((ctL ctAccess) (xs.take (j + 1)) : Int) by
        have a1 := ctL_succ ctAccess xs j hlt
        have a3 := HK.out
        omega)
      obtain ⟨ad, rfl⟩ : ∃ ad, A = some ad := by
        obtain ⟨ad, _, _, h, _⟩ := hs.get hlt
        exact ⟨ad, h⟩
      have hx0 := get_mid (mkL mkAccess ctAccess k (xs.take j)) xs j (by rw [mkL_len, List.length_take]; omega) hlt
      have Hfin := Lib.hid (show (mkL mkAccess ctAccess k (xs.take j) ++ xs.drop j).set j (mkAccess K xs[j]) = mkL mkAccess ctAccess k (xs.take (j + 1)) ++ xs.drop (j + 1) by
        rw [list_set_take _ _ _ _ (by rw [mkL_len, List.length_take]; omega) hlt, mkL_succ _ _ _ _ _ hlt, ← HK.out])
      have hlen : j < (mkL mkAccess ctAccess k (xs.take j) ++ xs.drop j).length := by rw [hs.n]; exact hlt
      obtain ⟨y, hy⟩ : ∃ y, xs[j] = y := ⟨_, rfl⟩
      rw [hy] at hx0 Hfin hq Hq2
      clear hy
      obtain ⟨y0, y1, y2⟩ := y
      simp only [ctAccess, ct1] at hq
      have hcur := hx0
      have hlst := hlen
      obtain ⟨⟨old0, ho0⟩, hfz0, hs2, hg2, hm2⟩ := hs.store' hg hlt (j := 0) (by decide) (.int .i64 (K)) (y0, y1, y2) (K, y1, y2) hcur (by
        intro w Fk ck hh
        obtain ⟨rfl, rfl, ihh0, ihh1⟩ := rAccess_open hh
        exact rAccess_mk (I64.mk (by omega) (by omega)) ihh1)
      simp only [show rAccess.size = 3 from rfl, add_zero'] at ho0 hfz0 hs2 hg2 hm2
      replace hm := hm.seq hm2
      clear hs hg hm2
      have hs := hs2
      have hg := hg2
      clear hs2 hg2 hcur
      have hcur := get_set (mkL mkAccess ctAccess k (xs.take j) ++ xs.drop j) j (K, y1, y2) hlen
      obtain ⟨⟨old1, ho1⟩, hfz1, hs2, hg2, hm2⟩ := hs.store' hg hlt (j := 1) (by decide) (.int .i64 (K + 1)) (K, y1, y2) (K, K + 1, y2) hcur (by
        intro w Fk ck hh
        obtain ⟨rfl, rfl, ihh0, ihh1⟩ := rAccess_open hh
        exact rAccess_mk ihh0 (I64.mk (by omega) (by omega)))
      simp only [show rAccess.size = 3 from rfl, show (ad.add (j * 3)).add 1 = ⟨(ad.add (j * 3)).block, (ad.add (j * 3)).off + 1, none⟩ from rfl] at ho1 hfz1 hs2 hg2 hm2
      rw [List.set_set] at hs2
      replace hm := hm.seq hm2
      clear hs hg hm2
      have hs := hs2
      have hg := hg2
      clear hs2 hg2 hcur
      have hcur := get_set (mkL mkAccess ctAccess k (xs.take j) ++ xs.drop j) j (K, K + 1, y2) hlen
      obtain ⟨⟨old2, ho2⟩, hfz2, hs2, hg2, hm2⟩ := hs.store' hg hlt (j := 2) (by decide) (.bool ((K + 1 + 1) % 3 == 0)) (K, K + 1, y2) (K, K + 1, ((K + 1 + 1) % 3 == 0)) hcur (by
        intro w Fk ck hh
        obtain ⟨rfl, rfl, ihh0, ihh1⟩ := rAccess_open hh
        exact rAccess_mk ihh0 ihh1)
      simp only [show rAccess.size = 3 from rfl, show (ad.add (j * 3)).add 2 = ⟨(ad.add (j * 3)).block, (ad.add (j * 3)).off + 2, none⟩ from rfl] at ho2 hfz2 hs2 hg2 hm2
      rw [List.set_set] at hs2
      replace hm := hm.seq hm2
      clear hs hg hm2
      have hs := hs2
      have hg := hg2
      clear hs2 hg2 hcur
      have hcur := get_set (mkL mkAccess ctAccess k (xs.take j) ++ xs.drop j) j (K, K + 1, ((K + 1 + 1) % 3 == 0)) hlen
      have Hf2 : (mkL mkAccess ctAccess k (xs.take j) ++ xs.drop j).set j (K, K + 1, ((K + 1 + 1) % 3 == 0)) = mkL mkAccess ctAccess k (xs.take (j + 1)) ++ xs.drop (j + 1) := Hfin.out
      rw [Hf2] at hs
      clear Hf2
      have Hs := Lib.hid hs
      have Hg := Lib.hid hg
      have Hm := Lib.hid hm
      clear hs hg hm
      have Hq3 : Hid (K + 1 + 1 + 1 = k + ((ctL ctAccess) (xs.take (j + 1)) : Int)) := by
        have := Hq2.out
        simp only [ctAccess, ct1] at this
        show _ = _
        omega
      go_wp2_with fail
      go_roundw
      case rel => exact ⟨j + 1, _, hlt, by go_num, rfl, Hq3, by omega, Hs.out, Hg.out, Hm.out⟩
      case measure => simp [intOf]; omega
    · obtain rfl : j = xs.length := by omega
      have hK := HK.out
      rw [List.take_length] at hK
      rw [List.take_length, List.drop_of_length_le (Nat.le_refl _), List.append_nil] at hs
      have HK2 := Lib.hid hK
      clear hK
      go_wp2_with fail
      go_ret
      exact ⟨ret_int HK2.out, hs, hg, hm⟩

set_option maxHeartbeats 2000000 in
theorem heldAccessS_any (w : World) (F : List Nat) (v : Value) (xs : List AccessD) (k : Int) (hx : SliceHas rAccess w F [v] ((mkL mkAccess ctAccess) k xs)) (h0 : 0 ≤ k) (h1 : k + ((ctL ctAccess) xs : Int) ≤ 4611686018427387904) :
    Calls Tryd.prog 49 #[v, .int .i64 k] w fun e w' => e = .returned (.int .i64 (k + ((ctL ctAccess) xs : Int))) ∧ Mod [] w w' := by
  obtain ⟨A, c, rfl, hn, _⟩ := hx.form'
  have hml := mkL_len mkAccess ctAccess xs k
  rw [hml] at hx hn
  have Hml := Lib.hid hml
  rw [hml]
  clear hml
  go_enter Tryd.func49, Tryd.ntmps49
  go_wp2_with fail
  go_loopw [1, 5] (fun kk i wr => ∃ (j : Nat) (K : Int), j ≤ xs.length ∧ i = .int .i64 j ∧ kk = .int .i64 K ∧ Hid (K = k + ((ctL ctAccess) (xs.take j) : Int)) ∧ 0 ≤ K ∧ Mod [] w wr) (fun _ i _ => xs.length - (intOf i).toNat)
  case atStart => exact ⟨0, k, Nat.zero_le _, rfl, rfl, (show _ = _ by simp [ctL]), h0, Mod.refl _ _⟩
  case round =>
    obtain ⟨j, K, hj, rfl, rfl, HK, K0, hB⟩ := hrel
    by_cases hlt : j < xs.length
    · have hq : K + (ctAccess xs[j] : Int) ≤ 4611686018427387904 := by
        have a1 := ctL_succ ctAccess xs j hlt
        have a2 := ctL_take_le ctAccess xs (j + 1)
        have a3 := HK.out
        omega
      have Hq2 := Lib.hid (show K + (ctAccess xs[j] : Int) = k + ((ctL ctAccess) (xs.take (j + 1)) : Int) by
        have a1 := ctL_succ ctAccess xs j hlt
        have a3 := HK.out
        omega)
      have hx' : SliceHas rAccess wr F [.slice A xs.length c] ((mkL mkAccess ctAccess) k xs) := Rep.slice rAccess |>.mod0 hx hB
      obtain ⟨ad, Fk, ck, rfl, _, _, _, hca, hxk⟩ := hx'.get hlt
      rw [mkL_get mkAccess ctAccess xs k j hlt, ← HK.out] at hxk
      obtain ⟨y, hy⟩ : ∃ y, xs[j] = y := ⟨_, rfl⟩
      rw [hy] at hxk hq Hq2
      clear hy
      obtain ⟨y0, y1, y2⟩ := y
      simp only [ctAccess, ct1] at hq
      simp only [mkAccess] at hxk
      obtain ⟨rfl, _, _, _⟩ := rAccess_open hxk
      have a0 := hca.zero
      have a1 := hca.nth 0 rfl
      have a2 := hca.nth 1 rfl
      simp only [show rAccess.size = 3 from rfl, mkI, mkB] at a0 a1 a2
      clear hca hxk
      have Hq3 : Hid (K + 1 + 1 + 1 = k + ((ctL ctAccess) (xs.take (j + 1)) : Int)) := by
        have := Hq2.out
        simp only [ctAccess, ct1] at this
        show _ = _
        omega
      go_wp2_with fail
      go_roundw
      case rel => exact ⟨j + 1, _, hlt, by go_num, rfl, Hq3, by omega, hB⟩
      case measure => simp [intOf]; omega
    · obtain rfl : j = xs.length := by omega
      have hK := HK.out
      rw [List.take_length] at hK
      have HK2 := Lib.hid hK
      clear hK
      go_wp2_with fail
      go_ret
      exact ⟨ret_int HK2.out, hB⟩














end Go.Proofs.YtldknaajnnohiaaDoor
