/- Contracts of mark.. and held.. for data without texts. -/
import Derived.Test.YtgdaclbijgcnpaaDoorMkDefs
import Derived.Test.YtgdaclbijgcnpaaDoorRows
namespace Go.Proofs.YtgdaclbijgcnpaaDoor
open Go.RowKit
attribute [local go_sem] ext_cell

set_option maxHeartbeats 2000000 in
theorem markIntS_any (w : World) (F : List Nat) (v : Value) (xs : List Int) (k : Int) (hx : SliceHas Rep.int w F [v] xs) (hF : Good w F) (h0 : 0 ≤ k) (h1 : k + ((ctL ct1) xs : Int) ≤ 4611686018427387904) :
    Calls Tryd.prog 93 #[v, .int .i64 k] w fun e w' => e = .returned (.int .i64 (k + ((ctL ct1) xs : Int))) ∧ SliceHas Rep.int w' F [v] ((mkL mkI ct1) k xs) ∧ Good w' F ∧ Mod F w w' := by
  obtain ⟨A, c, rfl, hn, _⟩ := hx.form'
  go_enter Tryd.func93, Tryd.ntmps93
  go_wp2_with fail
  go_loopw [1, 5] (fun kk i wr => ∃ (j : Nat) (K : Int), j ≤ xs.length ∧ i = .int .i64 j ∧ kk = .int .i64 K ∧ Hid (K = k + ((ctL ct1) (xs.take j) : Int)) ∧ 0 ≤ K ∧ SliceHas Rep.int wr F [.slice A xs.length c] (mkL mkI ct1 k (xs.take j) ++ xs.drop j) ∧ Good wr F ∧ Mod F w wr) (fun _ i _ => xs.length - (intOf i).toNat)
  case atStart => exact ⟨0, k, Nat.zero_le _, rfl, rfl, (show _ = _ by simp [ctL]), h0, by simpa [mkL] using hx, hF, Mod.refl _ _⟩
  case round =>
    obtain ⟨j, K, hj, rfl, rfl, HK, K0, hs, hg, hm⟩ := hrel
    by_cases hlt : j < xs.length
    · have hq : K + (ct1 xs[j] : Int) ≤ 4611686018427387904 := by
        have a1 := ctL_succ ct1 xs j hlt
        have a2 := ctL_take_le ct1 xs (j + 1)
        have a3 := HK.out
        omega
      have Hq2 := Lib.hid (show K + (ct1 xs[j] : Int) = k + ((ctL ct1) (xs.take (j + 1)) : Int) by
        have a1 := ctL_succ ct1 xs j hlt
        have a3 := HK.out
        omega)
      obtain ⟨ad, rfl⟩ : ∃ ad, A = some ad := by
        obtain ⟨ad, _, _, h, _⟩ := hs.get hlt
        exact ⟨ad, h⟩
      have hx0 := get_mid (mkL mkI ct1 k (xs.take j)) xs j (by rw [mkL_len, List.length_take]; omega) hlt
      have Hfin := Lib.hid (show (mkL mkI ct1 k (xs.take j) ++ xs.drop j).set j (mkI K xs[j]) = mkL mkI ct1 k (xs.take (j + 1)) ++ xs.drop (j + 1) by
        rw [list_set_take _ _ _ _ (by rw [mkL_len, List.length_take]; omega) hlt, mkL_succ _ _ _ _ _ hlt, ← HK.out])
      have hlen : j < (mkL mkI ct1 k (xs.take j) ++ xs.drop j).length := by rw [hs.n]; exact hlt
      have hC : (ct1 xs[j] : Int) = 1 := rfl
      obtain ⟨⟨old, ho⟩, hfz, hs2, hg2, hm2⟩ := hs.store' hg hlt (j := 0) (by decide) (.int .i64 K) xs[j] (mkI K xs[j]) hx0 (by rintro w Fk ck ⟨rfl, rfl, _⟩; exact ⟨rfl, rfl, (show I64 K from I64.mk (by omega) (by omega))⟩)
      simp only [show Rep.int.size = 1 from rfl, Nat.mul_one, add_zero'] at ho hfz hs2 hg2 hm2
      rw [Hfin.out] at hs2
      replace hm := hm.seq hm2
      clear hs hg hm2
      have hs := hs2
      have hg := hg2
      clear hs2 hg2
      have Hs := Lib.hid hs
      have Hg := Lib.hid hg
      have Hm := Lib.hid hm
      clear hs hg hm
      rw [hC] at hq
      have Hq3 : Hid (K + 1 = k + ((ctL ct1) (xs.take (j + 1)) : Int)) := by rw [← hC]; exact Hq2
      clear hC
      go_wp2_with fail
      go_roundw
      case rel => exact ⟨j + 1, K + 1, hlt, by go_num, rfl, Hq3, by omega, Hs.out, Hg.out, Hm.out⟩
      case measure => simp [intOf]; omega
    · obtain rfl : j = xs.length := by omega
      have hK := HK.out
      rw [List.take_length] at hK
      rw [List.take_length, List.drop_of_length_le (Nat.le_refl _), List.append_nil] at hs
      have HK2 := Lib.hid hK
      clear hK
      go_wp2_with fail
      go_ret
      exact ⟨ret_int HK2.out, hs, hg, hm⟩




set_option maxHeartbeats 2000000 in
theorem markIntSS_any (w : World) (F : List Nat) (v : Value) (xs : List (List Int)) (k : Int) (hx : SliceHas (Rep.int.slice) w F [v] xs) (hF : Good w F) (h0 : 0 ≤ k) (h1 : k + ((ctL (ctL ct1)) xs : Int) ≤ 4611686018427387904) :
    Calls Tryd.prog 71 #[v, .int .i64 k] w fun e w' => e = .returned (.int .i64 (k + ((ctL (ctL ct1)) xs : Int))) ∧ SliceHas (Rep.int.slice) w' F [v] ((mkL (mkL mkI ct1) (ctL ct1)) k xs) ∧ Good w' F ∧ Mod F w w' := by
  obtain ⟨A, c, rfl, hn, _⟩ := hx.form'
  go_enter Tryd.func71, Tryd.ntmps71
  go_wp2_with fail
  go_loopw [1, 5] (fun kk i wr => ∃ (j : Nat) (K : Int), j ≤ xs.length ∧ i = .int .i64 j ∧ kk = .int .i64 K ∧ Hid (K = k + ((ctL (ctL ct1)) (xs.take j) : Int)) ∧ 0 ≤ K ∧ SliceHas (Rep.int.slice) wr F [.slice A xs.length c] (mkL (mkL mkI ct1) (ctL ct1) k (xs.take j) ++ xs.drop j) ∧ Good wr F ∧ Mod F w wr) (fun _ i _ => xs.length - (intOf i).toNat)
  case atStart => exact ⟨0, k, Nat.zero_le _, rfl, rfl, (show _ = _ by simp [ctL]), h0, by simpa [mkL] using hx, hF, Mod.refl _ _⟩
  case round =>
    obtain ⟨j, K, hj, rfl, rfl, HK, K0, hs, hg, hm⟩ := hrel
    by_cases hlt : j < xs.length
    · have hq : K + ((ctL ct1) xs[j] : Int) ≤ 4611686018427387904 := by
        have a1 := ctL_succ (ctL ct1) xs j hlt
        have a2 := ctL_take_le (ctL ct1) xs (j + 1)
        have a3 := HK.out
        omega
      have Hq2 := Lib.hid (show K + ((ctL ct1) xs[j] : Int) = k + ((ctL (ctL ct1)) (xs.take (j + 1)) : Int) by
        have a1 := ctL_succ (ctL ct1) xs j hlt
        have a3 := HK.out
        omega)
      obtain ⟨ad, rfl⟩ : ∃ ad, A = some ad := by
        obtain ⟨ad, _, _, h, _⟩ := hs.get hlt
        exact ⟨ad, h⟩
      have hx0 := get_mid (mkL (mkL mkI ct1) (ctL ct1) k (xs.take j)) xs j (by rw [mkL_len, List.length_take]; omega) hlt
      have Hfin := Lib.hid (show (mkL (mkL mkI ct1) (ctL ct1) k (xs.take j) ++ xs.drop j).set j ((mkL mkI ct1) K xs[j]) = mkL (mkL mkI ct1) (ctL ct1) k (xs.take (j + 1)) ++ xs.drop (j + 1) by
        rw [list_set_take _ _ _ _ (by rw [mkL_len, List.length_take]; omega) hlt, mkL_succ _ _ _ _ _ hlt, ← HK.out])
      have hlen : j < (mkL (mkL mkI ct1) (ctL ct1) k (xs.take j) ++ xs.drop j).length := by rw [hs.n]; exact hlt
      obtain ⟨ad2, Fk, ck, hE, hb, hca, hxk, hgk, hsub, hback⟩ := hs.inner hg hlt xs[j] hx0
      cases hE
      obtain ⟨A2, c2, rfl⟩ : ∃ A2 c2, ck = [.slice A2 xs[j].length c2] := by
        obtain ⟨u, rfl⟩ := Rep.one_cell rfl hxk
        obtain ⟨A2, c2, rfl, _⟩ := SliceHas.form' hxk
        exact ⟨A2, c2, rfl⟩
      have a0 : wr.cell? (ad.add j) = some (.slice A2 xs[j].length c2) := by
        have h := hca.zero
        simpa only [show (Rep.int.slice).size = 1 from rfl, Nat.mul_one] using h
      go_wp2_with fail
      refine (markIntS_any _ Fk _ xs[j] K hxk hgk K0 hq).mono ?_
      rintro e w1 ⟨rfl, hx1, hg1, hm1⟩
      obtain ⟨hs2, hg2, hm2⟩ := hback w1 _ hm1 hg1 hx1
      rw [Hfin.out] at hs2
      replace hm := hm.seq hm2
      clear hs hg hm2
      have hs := hs2
      have hg := hg2
      clear hs2 hg2
      have Hs := Lib.hid hs
      have Hg := Lib.hid hg
      have Hm := Lib.hid hm
      clear hs hg hm
      go_wp2_with fail
      go_roundw
      case rel => exact ⟨j + 1, _, hlt, by go_num, rfl, Hq2, by omega, Hs.out, Hg.out, Hm.out⟩
      case measure => simp [intOf]; omega
    · obtain rfl : j = xs.length := by omega
      have hK := HK.out
      rw [List.take_length] at hK
      rw [List.take_length, List.drop_of_length_le (Nat.le_refl _), List.append_nil] at hs
      have HK2 := Lib.hid hK
      clear hK
      go_wp2_with fail
      go_ret
      exact ⟨ret_int HK2.out, hs, hg, hm⟩



















end Go.Proofs.YtgdaclbijgcnpaaDoor
