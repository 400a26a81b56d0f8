/- Contracts of mark.. and held.. for data without texts. -/
import Derived.Test.YthabgnhedmepjaaMkDefs
import Derived.Test.YthabgnhedmepjaaRows
namespace Go.Proofs.Ythabgnhedmepjaa
open Go.RowKit
attribute [local go_sem] ext_cell

set_option maxHeartbeats 2000000 in
theorem markIntS_any (w : World) (F : List Nat) (v : Value) (xs : List Int) (k : Int) (hx : SliceHas Rep.int w F [v] xs) (hF : Good w F) (h0 : 0 ≤ k) (h1 : k + ((ctL ct1) xs : Int) ≤ 4611686018427387904) :
    Calls Try.prog 30 #[v, .int .i64 k] w fun e w' => e = .returned (.int .i64 (k + ((ctL ct1) xs : Int))) ∧ SliceHas Rep.int w' F [v] ((mkL mkI ct1) k xs) ∧ Good w' F ∧ Mod F w w' := by
  obtain ⟨A, c, rfl, hn, _⟩ := hx.form'
  go_enter Try.func30, Try.ntmps30
  go_wp2_with fail
  go_loopw [1, 5] (fun kk i wr => ∃ (j : Nat) (K : Int), j ≤ xs.length ∧ i = .int .i64 j ∧ kk = .int .i64 K ∧ Hid (K = k + ((ctL ct1) (xs.take j) : Int)) ∧ 0 ≤ K ∧ SliceHas Rep.int wr F [.slice A xs.length c] (mkL mkI ct1 k (xs.take j) ++ xs.drop j) ∧ Good wr F ∧ Mod F w wr) (fun _ i _ => xs.length - (intOf i).toNat)
  case atStart => exact ⟨0, k, Nat.zero_le _, rfl, rfl, (show _ = _ by simp [ctL]), h0, by simpa [mkL] using hx, hF, Mod.refl _ _⟩
  case round =>
    obtain ⟨j, K, hj, rfl, rfl, HK, K0, hs, hg, hm⟩ := hrel
    by_cases hlt : j < xs.length
    · have hq : K + (ct1 xs[j] : Int) ≤ 4611686018427387904 := by
        have a1 := ctL_succ ct1 xs j hlt
        have a2 := ctL_take_le ct1 xs (j + 1)
        have a3 := HK.out
        omega
      have Hq2 := Lib.hid (show K + (ct1 xs[j] : Int) = k + ((ctL ct1) (xs.take (j + 1)) : Int) by
        have a1 := ctL_succ ct1 xs j hlt
        have a3 := HK.out
        omega)
      obtain ⟨ad, rfl⟩ : ∃ ad, A = some ad := by
        obtain ⟨ad, _, _, h, _⟩ := hs.get hlt
        exact ⟨ad, h⟩
      have hx0 := get_mid (mkL mkI ct1 k (xs.take j)) xs j (by rw [mkL_len, List.length_take]; omega) hlt
      have Hfin := Lib.hid (show (mkL mkI ct1 k (xs.take j) ++ xs.drop j).set j (mkI K xs[j]) = mkL mkI ct1 k (xs.take (j + 1)) ++ xs.drop (j + 1) by
        rw [list_set_take _ _ _ _ (by rw [mkL_len, List.length_take]; omega) hlt, mkL_succ _ _ _ _ _ hlt, ← HK.out])
      have hlen : j < (mkL mkI ct1 k (xs.take j) ++ xs.drop j).length := by rw [hs.n]; exact hlt
      have hC : (ct1 xs[j] : Int) = 1 := rfl
      obtain ⟨⟨old, ho⟩, hfz, hs2, hg2, hm2⟩ := hs.store' hg hlt (j := 0) (by decide) (.int .i64 K) xs[j] (mkI K xs[j]) hx0 (by rintro w Fk ck ⟨rfl, rfl, _⟩; exact ⟨rfl, rfl, (show I64 K from I64.mk (by omega) (by omega))⟩)
      simp only [show Rep.int.size = 1 from rfl, Nat.mul_one, add_zero'] at ho hfz hs2 hg2 hm2
      rw [Hfin.out] at hs2
      replace hm := hm.seq hm2
      clear hs hg hm2
      have hs := hs2
      have hg := hg2
      clear hs2 hg2
      have Hs := Lib.hid hs
      have Hg := Lib.hid hg
      have Hm := Lib.hid hm
      clear hs hg hm
      rw [hC] at hq
      have Hq3 : Hid (K + 1 = k + ((ctL ct1) (xs.take (j + 1)) : Int)) := by rw [← hC]; exact Hq2
      clear hC
      go_wp2_with fail
      go_roundw
      case rel => exact ⟨j + 1, K + 1, hlt, by go_num, rfl, Hq3, by omega, Hs.out, Hg.out, Hm.out⟩
      case measure => simp [intOf]; omega
    · obtain rfl : j = xs.length := by omega
      have hK := HK.out
      rw [List.take_length] at hK
      rw [List.take_length, List.drop_of_length_le (Nat.le_refl _), List.append_nil] at hs
      have HK2 := Lib.hid hK
      clear hK
      go_wp2_with fail
      go_ret
      exact ⟨ret_int HK2.out, hs, hg, hm⟩

set_option maxHeartbeats 2000000 in
theorem heldIntS_any (w : World) (F : List Nat) (v : Value) (xs : List Int) (k : Int) (hx : SliceHas Rep.int w F [v] ((mkL mkI ct1) k xs)) (h0 : 0 ≤ k) (h1 : k + ((ctL ct1) xs : Int) ≤ 4611686018427387904) :
    Calls Try.prog 42 #[v, .int .i64 k] w fun e w' => e = .returned (.int .i64 (k + ((ctL ct1) xs : Int))) ∧ Mod [] w w' := by
  obtain ⟨A, c, rfl, hn, _⟩ := hx.form'
  have hml := mkL_len mkI ct1 xs k
  rw [hml] at hx hn
  have Hml := Lib.hid hml
  rw [hml]
  clear hml
  go_enter Try.func42, Try.ntmps42
  go_wp2_with fail
  go_loopw [1, 5] (fun kk i wr => ∃ (j : Nat) (K : Int), j ≤ xs.length ∧ i = .int .i64 j ∧ kk = .int .i64 K ∧ Hid (K = k + ((ctL ct1) (xs.take j) : Int)) ∧ 0 ≤ K ∧ Mod [] w wr) (fun _ i _ => xs.length - (intOf i).toNat)
  case atStart => exact ⟨0, k, Nat.zero_le _, rfl, rfl, (show _ = _ by simp [ctL]), h0, Mod.refl _ _⟩
  case round =>
    obtain ⟨j, K, hj, rfl, rfl, HK, K0, hB⟩ := hrel
    by_cases hlt : j < xs.length
    · have hq : K + (ct1 xs[j] : Int) ≤ 4611686018427387904 := by
        have a1 := ctL_succ ct1 xs j hlt
        have a2 := ctL_take_le ct1 xs (j + 1)
        have a3 := HK.out
        omega
      have Hq2 := Lib.hid (show K + (ct1 xs[j] : Int) = k + ((ctL ct1) (xs.take (j + 1)) : Int) by
        have a1 := ctL_succ ct1 xs j hlt
        have a3 := HK.out
        omega)
      have hx' : SliceHas Rep.int wr F [.slice A xs.length c] ((mkL mkI ct1) k xs) := Rep.slice Rep.int |>.mod0 hx hB
      obtain ⟨ad, Fk, ck, rfl, _, _, _, hca, hxk⟩ := hx'.get hlt
      rw [mkL_get mkI ct1 xs k j hlt, ← HK.out] at hxk
      obtain ⟨rfl, rfl, _⟩ := hxk
      have a0 := hca.zero
      simp only [show Rep.int.size = 1 from rfl, Nat.mul_one, mkI, mkB] at a0
      clear hca
      have hC : (ct1 xs[j] : Int) = 1 := rfl
      rw [hC] at hq
      have Hq3 : Hid (K + 1 = k + ((ctL ct1) (xs.take (j + 1)) : Int)) := by rw [← hC]; exact Hq2
      clear hC
      go_wp2_with fail
      go_roundw
      case rel => exact ⟨j + 1, _, hlt, by go_num, rfl, Hq3, by omega, hB⟩
      case measure => simp [intOf]; omega
    · obtain rfl : j = xs.length := by omega
      have hK := HK.out
      rw [List.take_length] at hK
      have HK2 := Lib.hid hK
      clear hK
      go_wp2_with fail
      go_ret
      exact ⟨ret_int HK2.out, hB⟩





set_option maxHeartbeats 2000000 in
theorem markPairS_any (w : World) (F : List Nat) (v : Value) (xs : List PairD) (k : Int) (hx : SliceHas rPair w F [v] xs) (hF : Good w F) (h0 : 0 ≤ k) (h1 : k + ((ctL ctPair) xs : Int) ≤ 4611686018427387904) :
    Calls Try.prog 22 #[v, .int .i64 k] w fun e w' => e = .returned (.int .i64 (k + ((ctL ctPair) xs : Int))) ∧ SliceHas rPair w' F [v] ((mkL mkPair ctPair) k xs) ∧ Good w' F ∧ Mod F w w' := by
  obtain ⟨A, c, rfl, hn, _⟩ := hx.form'
  go_enter Try.func22, Try.ntmps22
  go_wp2_with fail
  go_loopw [1, 5] (fun kk i wr => ∃ (j : Nat) (K : Int), j ≤ xs.length ∧ i = .int .i64 j ∧ kk = .int .i64 K ∧ Hid (K = k + ((ctL ctPair) (xs.take j) : Int)) ∧ 0 ≤ K ∧ SliceHas rPair wr F [.slice A xs.length c] (mkL mkPair ctPair k (xs.take j) ++ xs.drop j) ∧ Good wr F ∧ Mod F w wr) (fun _ i _ => xs.length - (intOf i).toNat)
  case atStart => exact ⟨0, k, Nat.zero_le _, rfl, rfl, (show _ = _ by simp [ctL]), h0, by simpa [mkL] using hx, hF, Mod.refl _ _⟩
  case round =>
    obtain ⟨j, K, hj, rfl, rfl, HK, K0, hs, hg, hm⟩ := hrel
    by_cases hlt : j < xs.length
    · have hq : K + (ctPair xs[j] : Int) ≤ 4611686018427387904 := by
        have a1 := ctL_succ ctPair xs j hlt
        have a2 := ctL_take_le ctPair xs (j + 1)
        have a3 := HK.out
        omega
      have Hq2 := Lib.hid (show K + (ctPair xs[j] : Int) = k + ((ctL ctPair) (xs.take (j + 1)) : Int) by
        have a1 := ctL_succ ctPair xs j hlt
        have a3 := HK.out
        omega)
      obtain ⟨ad, rfl⟩ : ∃ ad, A = some ad := by
        obtain ⟨ad, _, _, h, _⟩ := hs.get hlt
        exact ⟨ad, h⟩
      have hx0 := get_mid (mkL mkPair ctPair k (xs.take j)) xs j (by rw [mkL_len, List.length_take]; omega) hlt
      have Hfin := Lib.hid (show (mkL mkPair ctPair k (xs.take j) ++ xs.drop j).set j (mkPair K xs[j]) = mkL mkPair ctPair k (xs.take (j + 1)) ++ xs.drop (j + 1) by
        rw [list_set_take _ _ _ _ (by rw [mkL_len, List.length_take]; omega) hlt, mkL_succ _ _ _ _ _ hlt, ← HK.out])
      have hlen : j < (mkL mkPair ctPair k (xs.take j) ++ xs.drop j).length := by rw [hs.n]; exact hlt
      obtain ⟨y, hy⟩ : ∃ y, xs[j] = y := ⟨_, rfl⟩
      rw [hy] at hx0 Hfin hq Hq2
      clear hy
      obtain ⟨y0, y1⟩ := y
      simp only [ctPair, ct1] at hq
      have hcur := hx0
      have hlst := hlen
      obtain ⟨⟨old0, ho0⟩, hfz0, hs2, hg2, hm2⟩ := hs.store' hg hlt (j := 0) (by decide) (.int .i64 (K)) (y0, y1) (K, y1) hcur (by
        intro w Fk ck hh
        obtain ⟨rfl, rfl, ihh0, ihh1⟩ := rPair_open hh
        exact rPair_mk (I64.mk (by omega) (by omega)) ihh1)
      simp only [show rPair.size = 2 from rfl, add_zero'] at ho0 hfz0 hs2 hg2 hm2
      replace hm := hm.seq hm2
      clear hs hg hm2
      have hs := hs2
      have hg := hg2
      clear hs2 hg2 hcur
      have hcur := get_set (mkL mkPair ctPair k (xs.take j) ++ xs.drop j) j (K, y1) hlen
      obtain ⟨⟨old1, ho1⟩, hfz1, hs2, hg2, hm2⟩ := hs.store' hg hlt (j := 1) (by decide) (.int .i64 (K + 1)) (K, y1) (K, K + 1) hcur (by
        intro w Fk ck hh
        obtain ⟨rfl, rfl, ihh0, ihh1⟩ := rPair_open hh
        exact rPair_mk ihh0 (I64.mk (by omega) (by omega)))
      simp only [show rPair.size = 2 from rfl, show (ad.add (j * 2)).add 1 = ⟨(ad.add (j * 2)).block, (ad.add (j * 2)).off + 1, none⟩ from rfl] at ho1 hfz1 hs2 hg2 hm2
      rw [List.set_set] at hs2
      replace hm := hm.seq hm2
      clear hs hg hm2
      have hs := hs2
      have hg := hg2
      clear hs2 hg2 hcur
      have hcur := get_set (mkL mkPair ctPair k (xs.take j) ++ xs.drop j) j (K, K + 1) hlen
      have Hf2 : (mkL mkPair ctPair k (xs.take j) ++ xs.drop j).set j (K, K + 1) = mkL mkPair ctPair k (xs.take (j + 1)) ++ xs.drop (j + 1) := Hfin.out
      rw [Hf2] at hs
      clear Hf2
      have Hs := Lib.hid hs
      have Hg := Lib.hid hg
      have Hm := Lib.hid hm
      clear hs hg hm
      have Hq3 : Hid (K + 1 + 1 = k + ((ctL ctPair) (xs.take (j + 1)) : Int)) := by
        have := Hq2.out
        simp only [ctPair, ct1] at this
        show _ = _
        omega
      go_wp2_with fail
      go_roundw
      case rel => exact ⟨j + 1, _, hlt, by go_num, rfl, Hq3, by omega, Hs.out, Hg.out, Hm.out⟩
      case measure => simp [intOf]; omega
    · obtain rfl : j = xs.length := by omega
      have hK := HK.out
      rw [List.take_length] at hK
      rw [List.take_length, List.drop_of_length_le (Nat.le_refl _), List.append_nil] at hs
      have HK2 := Lib.hid hK
      clear hK
      go_wp2_with fail
      go_ret
      exact ⟨ret_int HK2.out, hs, hg, hm⟩


set_option maxHeartbeats 2000000 in
theorem markAccessS_any (w : World) (F : List Nat) (v : Value) (xs : List AccessD) (k : Int) (hx : SliceHas rAccess w F [v] xs) (hF : Good w F) (h0 : 0 ≤ k) (h1 : k + ((ctL ctAccess) xs : Int) ≤ 4611686018427387904) :
    Calls Try.prog 23 #[v, .int .i64 k] w fun e w' => e = .returned (.int .i64 (k + ((ctL ctAccess) xs : Int))) ∧ SliceHas rAccess w' F [v] ((mkL mkAccess ctAccess) k xs) ∧ Good w' F ∧ Mod F w w' := by
  obtain ⟨A, c, rfl, hn, _⟩ := hx.form'
  go_enter Try.func23, Try.ntmps23
  go_wp2_with fail
  go_loopw [1, 5] (fun kk i wr => ∃ (j : Nat) (K : Int), j ≤ xs.length ∧ i = .int .i64 j ∧ kk = .int .i64 K ∧ Hid (K = k + ((ctL ctAccess) (xs.take j) : Int)) ∧ 0 ≤ K ∧ SliceHas rAccess wr F [.slice A xs.length c] (mkL mkAccess ctAccess k (xs.take j) ++ xs.drop j) ∧ Good wr F ∧ Mod F w wr) (fun _ i _ => xs.length - (intOf i).toNat)
  case atStart => exact ⟨0, k, Nat.zero_le _, rfl, rfl, (show _ = _ by simp [ctL]), h0, by simpa [mkL] using hx, hF, Mod.refl _ _⟩
  case round =>
    obtain ⟨j, K, hj, rfl, rfl, HK, K0, hs, hg, hm⟩ := hrel
    by_cases hlt : j < xs.length
    · have hq : K + (ctAccess xs[j] : Int) ≤ 4611686018427387904 := by
        have a1 := ctL_succ ctAccess xs j hlt
        have a2 := ctL_take_le ctAccess xs (j + 1)
        have a3 := HK.out
        omega
      have Hq2 := Lib.hid (show K + (ctAccess xs[j] : Int) = k + ((ctL ctAccess) (xs.take (j + 1)) : Int) by
        have a1 := ctL_succ ctAccess xs j hlt
        have a3 := HK.out
        omega)
      obtain ⟨ad, rfl⟩ : ∃ ad, A = some ad := by
        obtain ⟨ad, _, _, h, _⟩ := hs.get hlt
        exact ⟨ad, h⟩
      have hx0 := get_mid (mkL mkAccess ctAccess k (xs.take j)) xs j (by rw [mkL_len, List.length_take]; omega) hlt
      have Hfin := Lib.hid (show (mkL mkAccess ctAccess k (xs.take j) ++ xs.drop j).set j (mkAccess K xs[j]) = mkL mkAccess ctAccess k (xs.take (j + 1)) ++ xs.drop (j + 1) by
        rw [list_set_take _ _ _ _ (by rw [mkL_len, List.length_take]; omega) hlt, mkL_succ _ _ _ _ _ hlt, ← HK.out])
      have hlen : j < (mkL mkAccess ctAccess k (xs.take j) ++ xs.drop j).length := by rw [hs.n]; exact hlt
      obtain ⟨y, hy⟩ : ∃ y, xs[j] = y := ⟨_, rfl⟩
      rw [hy] at hx0 Hfin hq Hq2
      clear hy
      obtain ⟨y0, y1, y2⟩ := y
      simp only [ctAccess, ct1] at hq
      have hcur := hx0
      have hlst := hlen
      obtain ⟨⟨old0, ho0⟩, hfz0, hs2, hg2, hm2⟩ := hs.store' hg hlt (j := 0) (by decide) (.int .i64 (K)) (y0, y1, y2) (K, y1, y2) hcur (by
        intro w Fk ck hh
        obtain ⟨rfl, rfl, ihh0, ihh1⟩ := rAccess_open hh
        exact rAccess_mk (I64.mk (by omega) (by omega)) ihh1)
      simp only [show rAccess.size = 3 from rfl, add_zero'] at ho0 hfz0 hs2 hg2 hm2
      replace hm := hm.seq hm2
      clear hs hg hm2
      have hs := hs2
      have hg := hg2
      clear hs2 hg2 hcur
      have hcur := get_set (mkL mkAccess ctAccess k (xs.take j) ++ xs.drop j) j (K, y1, y2) hlen
      obtain ⟨⟨old1, ho1⟩, hfz1, hs2, hg2, hm2⟩ := hs.store' hg hlt (j := 1) (by decide) (.int .i64 (K + 1)) (K, y1, y2) (K, K + 1, y2) hcur (by
        intro w Fk ck hh
        obtain ⟨rfl, rfl, ihh0, ihh1⟩ := rAccess_open hh
        exact rAccess_mk ihh0 (I64.mk (by omega) (by omega)))
      simp only [show rAccess.size = 3 from rfl, show (ad.add (j * 3)).add 1 = ⟨(ad.add (j * 3)).block, (ad.add (j * 3)).off + 1, none⟩ from rfl] at ho1 hfz1 hs2 hg2 hm2
      rw [List.set_set] at hs2
      replace hm := hm.seq hm2
      clear hs hg hm2
      have hs := hs2
      have hg := hg2
      clear hs2 hg2 hcur
      have hcur := get_set (mkL mkAccess ctAccess k (xs.take j) ++ xs.drop j) j (K, K + 1, y2) hlen
      obtain ⟨⟨old2, ho2⟩, hfz2, hs2, hg2, hm2⟩ := hs.store' hg hlt (j := 2) (by decide) (.bool ((K + 1 + 1) % 3 == 0)) (K, K + 1, y2) (K, K + 1, ((K + 1 + 1) % 3 == 0)) hcur (by
        intro w Fk ck hh
        obtain ⟨rfl, rfl, ihh0, ihh1⟩ := rAccess_open hh
        exact rAccess_mk ihh0 ihh1)
      simp only [show rAccess.size = 3 from rfl, show (ad.add (j * 3)).add 2 = ⟨(ad.add (j * 3)).block, (ad.add (j * 3)).off + 2, none⟩ from rfl] at ho2 hfz2 hs2 hg2 hm2
      rw [List.set_set] at hs2
      replace hm := hm.seq hm2
      clear hs hg hm2
      have hs := hs2
      have hg := hg2
      clear hs2 hg2 hcur
      have hcur := get_set (mkL mkAccess ctAccess k (xs.take j) ++ xs.drop j) j (K, K + 1, ((K + 1 + 1) % 3 == 0)) hlen
      have Hf2 : (mkL mkAccess ctAccess k (xs.take j) ++ xs.drop j).set j (K, K + 1, ((K + 1 + 1) % 3 == 0)) = mkL mkAccess ctAccess k (xs.take (j + 1)) ++ xs.drop (j + 1) := Hfin.out
      rw [Hf2] at hs
      clear Hf2
      have Hs := Lib.hid hs
      have Hg := Lib.hid hg
      have Hm := Lib.hid hm
      clear hs hg hm
      have Hq3 : Hid (K + 1 + 1 + 1 = k + ((ctL ctAccess) (xs.take (j + 1)) : Int)) := by
        have := Hq2.out
        simp only [ctAccess, ct1] at this
        show _ = _
        omega
      go_wp2_with fail
      go_roundw
      case rel => exact ⟨j + 1, _, hlt, by go_num, rfl, Hq3, by omega, Hs.out, Hg.out, Hm.out⟩
      case measure => simp [intOf]; omega
    · obtain rfl : j = xs.length := by omega
      have hK := HK.out
      rw [List.take_length] at hK
      rw [List.take_length, List.drop_of_length_le (Nat.le_refl _), List.append_nil] at hs
      have HK2 := Lib.hid hK
      clear hK
      go_wp2_with fail
      go_ret
      exact ⟨ret_int HK2.out, hs, hg, hm⟩

set_option maxHeartbeats 2000000 in
theorem heldAccessS_any (w : World) (F : List Nat) (v : Value) (xs : List AccessD) (k : Int) (hx : SliceHas rAccess w F [v] ((mkL mkAccess ctAccess) k xs)) (h0 : 0 ≤ k) (h1 : k + ((ctL ctAccess) xs : Int) ≤ 4611686018427387904) :
    Calls Try.prog 24 #[v, .int .i64 k] w fun e w' => e = .returned (.int .i64 (k + ((ctL ctAccess) xs : Int))) ∧ Mod [] w w' := by
  obtain ⟨A, c, rfl, hn, _⟩ := hx.form'
  have hml := mkL_len mkAccess ctAccess xs k
  rw [hml] at hx hn
  have Hml := Lib.hid hml
  rw [hml]
  clear hml
  go_enter Try.func24, Try.ntmps24
  go_wp2_with fail
  go_loopw [1, 5] (fun kk i wr => ∃ (j : Nat) (K : Int), j ≤ xs.length ∧ i = .int .i64 j ∧ kk = .int .i64 K ∧ Hid (K = k + ((ctL ctAccess) (xs.take j) : Int)) ∧ 0 ≤ K ∧ Mod [] w wr) (fun _ i _ => xs.length - (intOf i).toNat)
  case atStart => exact ⟨0, k, Nat.zero_le _, rfl, rfl, (show _ = _ by simp [ctL]), h0, Mod.refl _ _⟩
  case round =>
    obtain ⟨j, K, hj, rfl, rfl, HK, K0, hB⟩ := hrel
    by_cases hlt : j < xs.length
    · have hq : K + (ctAccess xs[j] : Int) ≤ 4611686018427387904 := by
        have a1 := ctL_succ ctAccess xs j hlt
        have a2 := ctL_take_le ctAccess xs (j + 1)
        have a3 := HK.out
        omega
      have Hq2 := Lib.hid (show K + (ctAccess xs[j] : Int) = k + ((ctL ctAccess) (xs.take (j + 1)) : Int) by
        have a1 := ctL_succ ctAccess xs j hlt
        have a3 := HK.out
        omega)
      have hx' : SliceHas rAccess wr F [.slice A xs.length c] ((mkL mkAccess ctAccess) k xs) := Rep.slice rAccess |>.mod0 hx hB
      obtain ⟨ad, Fk, ck, rfl, _, _, _, hca, hxk⟩ := hx'.get hlt
      rw [mkL_get mkAccess ctAccess xs k j hlt, ← HK.out] at hxk
      obtain ⟨y, hy⟩ : ∃ y, xs[j] = y := ⟨_, rfl⟩
      rw [hy] at hxk hq Hq2
      clear hy
      obtain ⟨y0, y1, y2⟩ := y
      simp only [ctAccess, ct1] at hq
      simp only [mkAccess] at hxk
      obtain ⟨rfl, _, _, _⟩ := rAccess_open hxk
      have a0 := hca.zero
      have a1 := hca.nth 0 rfl
      have a2 := hca.nth 1 rfl
      simp only [show rAccess.size = 3 from rfl, mkI, mkB] at a0 a1 a2
      clear hca hxk
      have Hq3 : Hid (K + 1 + 1 + 1 = k + ((ctL ctAccess) (xs.take (j + 1)) : Int)) := by
        have := Hq2.out
        simp only [ctAccess, ct1] at this
        show _ = _
        omega
      go_wp2_with fail
      go_roundw
      case rel => exact ⟨j + 1, _, hlt, by go_num, rfl, Hq3, by omega, hB⟩
      case measure => simp [intOf]; omega
    · obtain rfl : j = xs.length := by omega
      have hK := HK.out
      rw [List.take_length] at hK
      have HK2 := Lib.hid hK
      clear hK
      go_wp2_with fail
      go_ret
      exact ⟨ret_int HK2.out, hB⟩

set_option maxHeartbeats 2000000 in
theorem markBlockS_any (w : World) (F : List Nat) (v : Value) (xs : List BlockD) (k : Int) (hx : SliceHas rBlock w F [v] xs) (hF : Good w F) (h0 : 0 ≤ k) (h1 : k + ((ctL ctBlock) xs : Int) ≤ 4611686018427387904) :
    Calls Try.prog 89 #[v, .int .i64 k] w fun e w' => e = .returned (.int .i64 (k + ((ctL ctBlock) xs : Int))) ∧ SliceHas rBlock w' F [v] ((mkL mkBlock ctBlock) k xs) ∧ Good w' F ∧ Mod F w w' := by
  obtain ⟨A, c, rfl, hn, _⟩ := hx.form'
  go_enter Try.func89, Try.ntmps89
  go_wp2_with fail
  go_loopw [1, 5] (fun kk i wr => ∃ (j : Nat) (K : Int), j ≤ xs.length ∧ i = .int .i64 j ∧ kk = .int .i64 K ∧ Hid (K = k + ((ctL ctBlock) (xs.take j) : Int)) ∧ 0 ≤ K ∧ SliceHas rBlock wr F [.slice A xs.length c] (mkL mkBlock ctBlock k (xs.take j) ++ xs.drop j) ∧ Good wr F ∧ Mod F w wr) (fun _ i _ => xs.length - (intOf i).toNat)
  case atStart => exact ⟨0, k, Nat.zero_le _, rfl, rfl, (show _ = _ by simp [ctL]), h0, by simpa [mkL] using hx, hF, Mod.refl _ _⟩
  case round =>
    obtain ⟨j, K, hj, rfl, rfl, HK, K0, hs, hg, hm⟩ := hrel
    by_cases hlt : j < xs.length
    · have hq : K + (ctBlock xs[j] : Int) ≤ 4611686018427387904 := by
        have a1 := ctL_succ ctBlock xs j hlt
        have a2 := ctL_take_le ctBlock xs (j + 1)
        have a3 := HK.out
        omega
      have Hq2 := Lib.hid (show K + (ctBlock xs[j] : Int) = k + ((ctL ctBlock) (xs.take (j + 1)) : Int) by
        have a1 := ctL_succ ctBlock xs j hlt
        have a3 := HK.out
        omega)
      obtain ⟨ad, rfl⟩ : ∃ ad, A = some ad := by
        obtain ⟨ad, _, _, h, _⟩ := hs.get hlt
        exact ⟨ad, h⟩
      have hx0 := get_mid (mkL mkBlock ctBlock k (xs.take j)) xs j (by rw [mkL_len, List.length_take]; omega) hlt
      have Hfin := Lib.hid (show (mkL mkBlock ctBlock k (xs.take j) ++ xs.drop j).set j (mkBlock K xs[j]) = mkL mkBlock ctBlock k (xs.take (j + 1)) ++ xs.drop (j + 1) by
        rw [list_set_take _ _ _ _ (by rw [mkL_len, List.length_take]; omega) hlt, mkL_succ _ _ _ _ _ hlt, ← HK.out])
      have hlen : j < (mkL mkBlock ctBlock k (xs.take j) ++ xs.drop j).length := by rw [hs.n]; exact hlt
      obtain ⟨y, hy⟩ : ∃ y, xs[j] = y := ⟨_, rfl⟩
      rw [hy] at hx0 Hfin hq Hq2
      clear hy
      obtain ⟨y0, y1, y2⟩ := y
      simp only [ctBlock, ct1] at hq
      have hcur := hx0
      have hlst := hlen
      obtain ⟨⟨old0, ho0⟩, hfz0, hs2, hg2, hm2⟩ := hs.store' hg hlt (j := 0) (by decide) (.int .i64 (K)) (y0, y1, y2) (K, y1, y2) hcur (by
        intro w Fk ck hh
        obtain ⟨rfl, rfl, ihh0, ihh1, ihh2⟩ := rBlock_open hh
        exact rBlock_mk (I64.mk (by omega) (by omega)) ihh1 ihh2)
      simp only [show rBlock.size = 3 from rfl, add_zero'] at ho0 hfz0 hs2 hg2 hm2
      replace hm := hm.seq hm2
      clear hs hg hm2
      have hs := hs2
      have hg := hg2
      clear hs2 hg2 hcur
      have hcur := get_set (mkL mkBlock ctBlock k (xs.take j) ++ xs.drop j) j (K, y1, y2) hlen
      obtain ⟨⟨old1, ho1⟩, hfz1, hs2, hg2, hm2⟩ := hs.store' hg hlt (j := 1) (by decide) (.int .i64 (K + 1)) (K, y1, y2) (K, K + 1, y2) hcur (by
        intro w Fk ck hh
        obtain ⟨rfl, rfl, ihh0, ihh1, ihh2⟩ := rBlock_open hh
        exact rBlock_mk ihh0 (I64.mk (by omega) (by omega)) ihh2)
      simp only [show rBlock.size = 3 from rfl, show (ad.add (j * 3)).add 1 = ⟨(ad.add (j * 3)).block, (ad.add (j * 3)).off + 1, none⟩ from rfl] at ho1 hfz1 hs2 hg2 hm2
      rw [List.set_set] at hs2
      replace hm := hm.seq hm2
      clear hs hg hm2
      have hs := hs2
      have hg := hg2
      clear hs2 hg2 hcur
      have hcur := get_set (mkL mkBlock ctBlock k (xs.take j) ++ xs.drop j) j (K, K + 1, y2) hlen
      obtain ⟨⟨old2, ho2⟩, hfz2, hs2, hg2, hm2⟩ := hs.store' hg hlt (j := 2) (by decide) (.int .i64 (K + 1 + 1)) (K, K + 1, y2) (K, K + 1, K + 1 + 1) hcur (by
        intro w Fk ck hh
        obtain ⟨rfl, rfl, ihh0, ihh1, ihh2⟩ := rBlock_open hh
        exact rBlock_mk ihh0 ihh1 (I64.mk (by omega) (by omega)))
      simp only [show rBlock.size = 3 from rfl, show (ad.add (j * 3)).add 2 = ⟨(ad.add (j * 3)).block, (ad.add (j * 3)).off + 2, none⟩ from rfl] at ho2 hfz2 hs2 hg2 hm2
      rw [List.set_set] at hs2
      replace hm := hm.seq hm2
      clear hs hg hm2
      have hs := hs2
      have hg := hg2
      clear hs2 hg2 hcur
      have hcur := get_set (mkL mkBlock ctBlock k (xs.take j) ++ xs.drop j) j (K, K + 1, K + 1 + 1) hlen
      have Hf2 : (mkL mkBlock ctBlock k (xs.take j) ++ xs.drop j).set j (K, K + 1, K + 1 + 1) = mkL mkBlock ctBlock k (xs.take (j + 1)) ++ xs.drop (j + 1) := Hfin.out
      rw [Hf2] at hs
      clear Hf2
      have Hs := Lib.hid hs
      have Hg := Lib.hid hg
      have Hm := Lib.hid hm
      clear hs hg hm
      have Hq3 : Hid (K + 1 + 1 + 1 = k + ((ctL ctBlock) (xs.take (j + 1)) : Int)) := by
        have := Hq2.out
        simp only [ctBlock, ct1] at this
        show _ = _
        omega
      go_wp2_with fail
      go_roundw
      case rel => exact ⟨j + 1, _, hlt, by go_num, rfl, Hq3, by omega, Hs.out, Hg.out, Hm.out⟩
      case measure => simp [intOf]; omega
    · obtain rfl : j = xs.length := by omega
      have hK := HK.out
      rw [List.take_length] at hK
      rw [List.take_length, List.drop_of_length_le (Nat.le_refl _), List.append_nil] at hs
      have HK2 := Lib.hid hK
      clear hK
      go_wp2_with fail
      go_ret
      exact ⟨ret_int HK2.out, hs, hg, hm⟩

set_option maxHeartbeats 2000000 in
theorem heldBlockS_any (w : World) (F : List Nat) (v : Value) (xs : List BlockD) (k : Int) (hx : SliceHas rBlock w F [v] ((mkL mkBlock ctBlock) k xs)) (h0 : 0 ≤ k) (h1 : k + ((ctL ctBlock) xs : Int) ≤ 4611686018427387904) :
    Calls Try.prog 91 #[v, .int .i64 k] w fun e w' => e = .returned (.int .i64 (k + ((ctL ctBlock) xs : Int))) ∧ Mod [] w w' := by
  obtain ⟨A, c, rfl, hn, _⟩ := hx.form'
  have hml := mkL_len mkBlock ctBlock xs k
  rw [hml] at hx hn
  have Hml := Lib.hid hml
  rw [hml]
  clear hml
  go_enter Try.func91, Try.ntmps91
  go_wp2_with fail
  go_loopw [1, 5] (fun kk i wr => ∃ (j : Nat) (K : Int), j ≤ xs.length ∧ i = .int .i64 j ∧ kk = .int .i64 K ∧ Hid (K = k + ((ctL ctBlock) (xs.take j) : Int)) ∧ 0 ≤ K ∧ Mod [] w wr) (fun _ i _ => xs.length - (intOf i).toNat)
  case atStart => exact ⟨0, k, Nat.zero_le _, rfl, rfl, (show _ = _ by simp [ctL]), h0, Mod.refl _ _⟩
  case round =>
    obtain ⟨j, K, hj, rfl, rfl, HK, K0, hB⟩ := hrel
    by_cases hlt : j < xs.length
    · have hq : K + (ctBlock xs[j] : Int) ≤ 4611686018427387904 := by
        have a1 := ctL_succ ctBlock xs j hlt
        have a2 := ctL_take_le ctBlock xs (j + 1)
        have a3 := HK.out
        omega
      have Hq2 := Lib.hid (show K + (ctBlock xs[j] : Int) = k + ((ctL ctBlock) (xs.take (j + 1)) : Int) by
        have a1 := ctL_succ ctBlock xs j hlt
        have a3 := HK.out
        omega)
      have hx' : SliceHas rBlock wr F [.slice A xs.length c] ((mkL mkBlock ctBlock) k xs) := Rep.slice rBlock |>.mod0 hx hB
      obtain ⟨ad, Fk, ck, rfl, _, _, _, hca, hxk⟩ := hx'.get hlt
      rw [mkL_get mkBlock ctBlock xs k j hlt, ← HK.out] at hxk
      obtain ⟨y, hy⟩ : ∃ y, xs[j] = y := ⟨_, rfl⟩
      rw [hy] at hxk hq Hq2
      clear hy
      obtain ⟨y0, y1, y2⟩ := y
      simp only [ctBlock, ct1] at hq
      simp only [mkBlock] at hxk
      obtain ⟨rfl, _, _, _, _⟩ := rBlock_open hxk
      have a0 := hca.zero
      have a1 := hca.nth 0 rfl
      have a2 := hca.nth 1 rfl
      simp only [show rBlock.size = 3 from rfl, mkI, mkB] at a0 a1 a2
      clear hca hxk
      have Hq3 : Hid (K + 1 + 1 + 1 = k + ((ctL ctBlock) (xs.take (j + 1)) : Int)) := by
        have := Hq2.out
        simp only [ctBlock, ct1] at this
        show _ = _
        omega
      go_wp2_with fail
      go_roundw
      case rel => exact ⟨j + 1, _, hlt, by go_num, rfl, Hq3, by omega, hB⟩
      case measure => simp [intOf]; omega
    · obtain rfl : j = xs.length := by omega
      have hK := HK.out
      rw [List.take_length] at hK
      have HK2 := Lib.hid hK
      clear hK
      go_wp2_with fail
      go_ret
      exact ⟨ret_int HK2.out, hB⟩

set_option maxHeartbeats 2000000 in
theorem markUseS_any (w : World) (F : List Nat) (v : Value) (xs : List UseD) (k : Int) (hx : SliceHas rUse w F [v] xs) (hF : Good w F) (h0 : 0 ≤ k) (h1 : k + ((ctL ctUse) xs : Int) ≤ 4611686018427387904) :
    Calls Try.prog 54 #[v, .int .i64 k] w fun e w' => e = .returned (.int .i64 (k + ((ctL ctUse) xs : Int))) ∧ SliceHas rUse w' F [v] ((mkL mkUse ctUse) k xs) ∧ Good w' F ∧ Mod F w w' := by
  obtain ⟨A, c, rfl, hn, _⟩ := hx.form'
  go_enter Try.func54, Try.ntmps54
  go_wp2_with fail
  go_loopw [1, 5] (fun kk i wr => ∃ (j : Nat) (K : Int), j ≤ xs.length ∧ i = .int .i64 j ∧ kk = .int .i64 K ∧ Hid (K = k + ((ctL ctUse) (xs.take j) : Int)) ∧ 0 ≤ K ∧ SliceHas rUse wr F [.slice A xs.length c] (mkL mkUse ctUse k (xs.take j) ++ xs.drop j) ∧ Good wr F ∧ Mod F w wr) (fun _ i _ => xs.length - (intOf i).toNat)
  case atStart => exact ⟨0, k, Nat.zero_le _, rfl, rfl, (show _ = _ by simp [ctL]), h0, by simpa [mkL] using hx, hF, Mod.refl _ _⟩
  case round =>
    obtain ⟨j, K, hj, rfl, rfl, HK, K0, hs, hg, hm⟩ := hrel
    by_cases hlt : j < xs.length
    · have hq : K + (ctUse xs[j] : Int) ≤ 4611686018427387904 := by
        have a1 := ctL_succ ctUse xs j hlt
        have a2 := ctL_take_le ctUse xs (j + 1)
        have a3 := HK.out
        omega
      have Hq2 := Lib.hid (show K + (ctUse xs[j] : Int) = k + ((ctL ctUse) (xs.take (j + 1)) : Int) by
        have a1 := ctL_succ ctUse xs j hlt
        have a3 := HK.out
        omega)
      obtain ⟨ad, rfl⟩ : ∃ ad, A = some ad := by
        obtain ⟨ad, _, _, h, _⟩ := hs.get hlt
        exact ⟨ad, h⟩
      have hx0 := get_mid (mkL mkUse ctUse k (xs.take j)) xs j (by rw [mkL_len, List.length_take]; omega) hlt
      have Hfin := Lib.hid (show (mkL mkUse ctUse k (xs.take j) ++ xs.drop j).set j (mkUse K xs[j]) = mkL mkUse ctUse k (xs.take (j + 1)) ++ xs.drop (j + 1) by
        rw [list_set_take _ _ _ _ (by rw [mkL_len, List.length_take]; omega) hlt, mkL_succ _ _ _ _ _ hlt, ← HK.out])
      have hlen : j < (mkL mkUse ctUse k (xs.take j) ++ xs.drop j).length := by rw [hs.n]; exact hlt
      obtain ⟨y, hy⟩ : ∃ y, xs[j] = y := ⟨_, rfl⟩
      rw [hy] at hx0 Hfin hq Hq2
      clear hy
      obtain ⟨y0, y1, y2, y3⟩ := y
      simp only [ctUse, ct1] at hq
      have hcur := hx0
      have hlst := hlen
      obtain ⟨⟨old0, ho0⟩, hfz0, hs2, hg2, hm2⟩ := hs.store' hg hlt (j := 0) (by decide) (.int .i64 (K)) (y0, y1, y2, y3) (K, y1, y2, y3) hcur (by
        intro w Fk ck hh
        obtain ⟨rfl, rfl, ihh0, ihh2, ihh3⟩ := rUse_open hh
        exact rUse_mk (I64.mk (by omega) (by omega)) ihh2 ihh3)
      simp only [show rUse.size = 4 from rfl, add_zero'] at ho0 hfz0 hs2 hg2 hm2
      replace hm := hm.seq hm2
      clear hs hg hm2
      have hs := hs2
      have hg := hg2
      clear hs2 hg2 hcur
      have hcur := get_set (mkL mkUse ctUse k (xs.take j) ++ xs.drop j) j (K, y1, y2, y3) hlen
      obtain ⟨⟨old1, ho1⟩, hfz1, hs2, hg2, hm2⟩ := hs.store' hg hlt (j := 1) (by decide) (.bool ((K + 1) % 3 == 0)) (K, y1, y2, y3) (K, ((K + 1) % 3 == 0), y2, y3) hcur (by
        intro w Fk ck hh
        obtain ⟨rfl, rfl, ihh0, ihh2, ihh3⟩ := rUse_open hh
        exact rUse_mk ihh0 ihh2 ihh3)
      simp only [show rUse.size = 4 from rfl, show (ad.add (j * 4)).add 1 = ⟨(ad.add (j * 4)).block, (ad.add (j * 4)).off + 1, none⟩ from rfl] at ho1 hfz1 hs2 hg2 hm2
      rw [List.set_set] at hs2
      replace hm := hm.seq hm2
      clear hs hg hm2
      have hs := hs2
      have hg := hg2
      clear hs2 hg2 hcur
      have hcur := get_set (mkL mkUse ctUse k (xs.take j) ++ xs.drop j) j (K, ((K + 1) % 3 == 0), y2, y3) hlen
      obtain ⟨⟨old2, ho2⟩, hfz2, hs2, hg2, hm2⟩ := hs.store' hg hlt (j := 2) (by decide) (.int .i64 (K + 1 + 1)) (K, ((K + 1) % 3 == 0), y2, y3) (K, ((K + 1) % 3 == 0), K + 1 + 1, y3) hcur (by
        intro w Fk ck hh
        obtain ⟨rfl, rfl, ihh0, ihh2, ihh3⟩ := rUse_open hh
        exact rUse_mk ihh0 (I64.mk (by omega) (by omega)) ihh3)
      simp only [show rUse.size = 4 from rfl, show (ad.add (j * 4)).add 2 = ⟨(ad.add (j * 4)).block, (ad.add (j * 4)).off + 2, none⟩ from rfl] at ho2 hfz2 hs2 hg2 hm2
      rw [List.set_set] at hs2
      replace hm := hm.seq hm2
      clear hs hg hm2
      have hs := hs2
      have hg := hg2
      clear hs2 hg2 hcur
      have hcur := get_set (mkL mkUse ctUse k (xs.take j) ++ xs.drop j) j (K, ((K + 1) % 3 == 0), K + 1 + 1, y3) hlen
      obtain ⟨⟨old3, ho3⟩, hfz3, hs2, hg2, hm2⟩ := hs.store' hg hlt (j := 3) (by decide) (.int .i64 (K + 1 + 1 + 1)) (K, ((K + 1) % 3 == 0), K + 1 + 1, y3) (K, ((K + 1) % 3 == 0), K + 1 + 1, K + 1 + 1 + 1) hcur (by
        intro w Fk ck hh
        obtain ⟨rfl, rfl, ihh0, ihh2, ihh3⟩ := rUse_open hh
        exact rUse_mk ihh0 ihh2 (I64.mk (by omega) (by omega)))
      simp only [show rUse.size = 4 from rfl, show (ad.add (j * 4)).add 3 = ⟨(ad.add (j * 4)).block, (ad.add (j * 4)).off + 3, none⟩ from rfl] at ho3 hfz3 hs2 hg2 hm2
      rw [List.set_set] at hs2
      replace hm := hm.seq hm2
      clear hs hg hm2
      have hs := hs2
      have hg := hg2
      clear hs2 hg2 hcur
      have hcur := get_set (mkL mkUse ctUse k (xs.take j) ++ xs.drop j) j (K, ((K + 1) % 3 == 0), K + 1 + 1, K + 1 + 1 + 1) hlen
      have Hf2 : (mkL mkUse ctUse k (xs.take j) ++ xs.drop j).set j (K, ((K + 1) % 3 == 0), K + 1 + 1, K + 1 + 1 + 1) = mkL mkUse ctUse k (xs.take (j + 1)) ++ xs.drop (j + 1) := Hfin.out
      rw [Hf2] at hs
      clear Hf2
      have Hs := Lib.hid hs
      have Hg := Lib.hid hg
      have Hm := Lib.hid hm
      clear hs hg hm
      have Hq3 : Hid (K + 1 + 1 + 1 + 1 = k + ((ctL ctUse) (xs.take (j + 1)) : Int)) := by
        have := Hq2.out
        simp only [ctUse, ct1] at this
        show _ = _
        omega
      go_wp2_with fail
      go_roundw
      case rel => exact ⟨j + 1, _, hlt, by go_num, rfl, Hq3, by omega, Hs.out, Hg.out, Hm.out⟩
      case measure => simp [intOf]; omega
    · obtain rfl : j = xs.length := by omega
      have hK := HK.out
      rw [List.take_length] at hK
      rw [List.take_length, List.drop_of_length_le (Nat.le_refl _), List.append_nil] at hs
      have HK2 := Lib.hid hK
      clear hK
      go_wp2_with fail
      go_ret
      exact ⟨ret_int HK2.out, hs, hg, hm⟩


set_option maxHeartbeats 2000000 in
theorem markBlockSS_any (w : World) (F : List Nat) (v : Value) (xs : List (List BlockD)) (k : Int) (hx : SliceHas (rBlock.slice) w F [v] xs) (hF : Good w F) (h0 : 0 ≤ k) (h1 : k + ((ctL (ctL ctBlock)) xs : Int) ≤ 4611686018427387904) :
    Calls Try.prog 88 #[v, .int .i64 k] w fun e w' => e = .returned (.int .i64 (k + ((ctL (ctL ctBlock)) xs : Int))) ∧ SliceHas (rBlock.slice) w' F [v] ((mkL (mkL mkBlock ctBlock) (ctL ctBlock)) k xs) ∧ Good w' F ∧ Mod F w w' := by
  obtain ⟨A, c, rfl, hn, _⟩ := hx.form'
  go_enter Try.func88, Try.ntmps88
  go_wp2_with fail
  go_loopw [1, 5] (fun kk i wr => ∃ (j : Nat) (K : Int), j ≤ xs.length ∧ i = .int .i64 j ∧ kk = .int .i64 K ∧ Hid (K = k + ((ctL (ctL ctBlock)) (xs.take j) : Int)) ∧ 0 ≤ K ∧ SliceHas (rBlock.slice) wr F [.slice A xs.length c] (mkL (mkL mkBlock ctBlock) (ctL ctBlock) k (xs.take j) ++ xs.drop j) ∧ Good wr F ∧ Mod F w wr) (fun _ i _ => xs.length - (intOf i).toNat)
  case atStart => exact ⟨0, k, Nat.zero_le _, rfl, rfl, (show _ = _ by simp [ctL]), h0, by simpa [mkL] using hx, hF, Mod.refl _ _⟩
  case round =>
    obtain ⟨j, K, hj, rfl, rfl, HK, K0, hs, hg, hm⟩ := hrel
    by_cases hlt : j < xs.length
    · have hq : K + ((ctL ctBlock) xs[j] : Int) ≤ 4611686018427387904 := by
        have a1 := ctL_succ (ctL ctBlock) xs j hlt
        have a2 := ctL_take_le (ctL ctBlock) xs (j + 1)
        have a3 := HK.out
        omega
      have Hq2 := Lib.hid (show K + ((ctL ctBlock) xs[j] : Int) = k + ((ctL (ctL ctBlock)) (xs.take (j + 1)) : Int) by
        have a1 := ctL_succ (ctL ctBlock) xs j hlt
        have a3 := HK.out
        omega)
      obtain ⟨ad, rfl⟩ : ∃ ad, A = some ad := by
        obtain ⟨ad, _, _, h, _⟩ := hs.get hlt
        exact ⟨ad, h⟩
      have hx0 := get_mid (mkL (mkL mkBlock ctBlock) (ctL ctBlock) k (xs.take j)) xs j (by rw [mkL_len, List.length_take]; omega) hlt
      have Hfin := Lib.hid (show (mkL (mkL mkBlock ctBlock) (ctL ctBlock) k (xs.take j) ++ xs.drop j).set j ((mkL mkBlock ctBlock) K xs[j]) = mkL (mkL mkBlock ctBlock) (ctL ctBlock) k (xs.take (j + 1)) ++ xs.drop (j + 1) by
        rw [list_set_take _ _ _ _ (by rw [mkL_len, List.length_take]; omega) hlt, mkL_succ _ _ _ _ _ hlt, ← HK.out])
      have hlen : j < (mkL (mkL mkBlock ctBlock) (ctL ctBlock) k (xs.take j) ++ xs.drop j).length := by rw [hs.n]; exact hlt
      obtain ⟨ad2, Fk, ck, hE, hb, hca, hxk, hgk, hsub, hback⟩ := hs.inner hg hlt xs[j] hx0
      cases hE
      obtain ⟨A2, c2, rfl⟩ : ∃ A2 c2, ck = [.slice A2 xs[j].length c2] := by
        obtain ⟨u, rfl⟩ := Rep.one_cell rfl hxk
        obtain ⟨A2, c2, rfl, _⟩ := SliceHas.form' hxk
        exact ⟨A2, c2, rfl⟩
      have a0 : wr.cell? (ad.add j) = some (.slice A2 xs[j].length c2) := by
        have h := hca.zero
        simpa only [show (rBlock.slice).size = 1 from rfl, Nat.mul_one] using h
      go_wp2_with fail
      refine (markBlockS_any _ Fk _ xs[j] K hxk hgk K0 hq).mono ?_
      rintro e w1 ⟨rfl, hx1, hg1, hm1⟩
      obtain ⟨hs2, hg2, hm2⟩ := hback w1 _ hm1 hg1 hx1
      rw [Hfin.out] at hs2
      replace hm := hm.seq hm2
      clear hs hg hm2
      have hs := hs2
      have hg := hg2
      clear hs2 hg2
      have Hs := Lib.hid hs
      have Hg := Lib.hid hg
      have Hm := Lib.hid hm
      clear hs hg hm
      go_wp2_with fail
      go_roundw
      case rel => exact ⟨j + 1, _, hlt, by go_num, rfl, Hq2, by omega, Hs.out, Hg.out, Hm.out⟩
      case measure => simp [intOf]; omega
    · obtain rfl : j = xs.length := by omega
      have hK := HK.out
      rw [List.take_length] at hK
      rw [List.take_length, List.drop_of_length_le (Nat.le_refl _), List.append_nil] at hs
      have HK2 := Lib.hid hK
      clear hK
      go_wp2_with fail
      go_ret
      exact ⟨ret_int HK2.out, hs, hg, hm⟩

set_option maxHeartbeats 2000000 in
theorem heldBlockSS_any (w : World) (F : List Nat) (v : Value) (xs : List (List BlockD)) (k : Int) (hx : SliceHas (rBlock.slice) w F [v] ((mkL (mkL mkBlock ctBlock) (ctL ctBlock)) k xs)) (h0 : 0 ≤ k) (h1 : k + ((ctL (ctL ctBlock)) xs : Int) ≤ 4611686018427387904) :
    Calls Try.prog 90 #[v, .int .i64 k] w fun e w' => e = .returned (.int .i64 (k + ((ctL (ctL ctBlock)) xs : Int))) ∧ Mod [] w w' := by
  obtain ⟨A, c, rfl, hn, _⟩ := hx.form'
  have hml := mkL_len (mkL mkBlock ctBlock) (ctL ctBlock) xs k
  rw [hml] at hx hn
  have Hml := Lib.hid hml
  rw [hml]
  clear hml
  go_enter Try.func90, Try.ntmps90
  go_wp2_with fail
  go_loopw [1, 5] (fun kk i wr => ∃ (j : Nat) (K : Int), j ≤ xs.length ∧ i = .int .i64 j ∧ kk = .int .i64 K ∧ Hid (K = k + ((ctL (ctL ctBlock)) (xs.take j) : Int)) ∧ 0 ≤ K ∧ Mod [] w wr) (fun _ i _ => xs.length - (intOf i).toNat)
  case atStart => exact ⟨0, k, Nat.zero_le _, rfl, rfl, (show _ = _ by simp [ctL]), h0, Mod.refl _ _⟩
  case round =>
    obtain ⟨j, K, hj, rfl, rfl, HK, K0, hB⟩ := hrel
    by_cases hlt : j < xs.length
    · have hq : K + ((ctL ctBlock) xs[j] : Int) ≤ 4611686018427387904 := by
        have a1 := ctL_succ (ctL ctBlock) xs j hlt
        have a2 := ctL_take_le (ctL ctBlock) xs (j + 1)
        have a3 := HK.out
        omega
      have Hq2 := Lib.hid (show K + ((ctL ctBlock) xs[j] : Int) = k + ((ctL (ctL ctBlock)) (xs.take (j + 1)) : Int) by
        have a1 := ctL_succ (ctL ctBlock) xs j hlt
        have a3 := HK.out
        omega)
      have hx' : SliceHas (rBlock.slice) wr F [.slice A xs.length c] ((mkL (mkL mkBlock ctBlock) (ctL ctBlock)) k xs) := Rep.slice (rBlock.slice) |>.mod0 hx hB
      obtain ⟨ad, Fk, ck, rfl, _, _, _, hca, hxk⟩ := hx'.get hlt
      rw [mkL_get (mkL mkBlock ctBlock) (ctL ctBlock) xs k j hlt, ← HK.out] at hxk
      obtain ⟨u, rfl⟩ := Rep.one_cell rfl hxk
      have a0 := hca.zero
      simp only [show (rBlock.slice).size = 1 from rfl, Nat.mul_one] at a0
      clear hca
      go_wp2_with fail
      refine (heldBlockS_any _ Fk _ xs[j] K hxk K0 hq).mono ?_
      rintro e w1 ⟨rfl, hm1⟩
      replace hB := hB.seq hm1
      go_wp2_with fail
      go_roundw
      case rel => exact ⟨j + 1, _, hlt, by go_num, rfl, Hq2, by omega, hB⟩
      case measure => simp [intOf]; omega
    · obtain rfl : j = xs.length := by omega
      have hK := HK.out
      rw [List.take_length] at hK
      have HK2 := Lib.hid hK
      clear hK
      go_wp2_with fail
      go_ret
      exact ⟨ret_int HK2.out, hB⟩



set_option maxHeartbeats 2000000 in
theorem markSealed_any (w : World) (F : List Nat) (cs : List Value) (x : SealedD) (k : Int) (hx : rSealed.has w F cs x) (hF : Good w F) (kb0 : 0 ≤ k) (kb1 : k + (ctvSealed x : Int) ≤ 4611686018427387904) :
    Calls Try.prog 31 #[.agg cs.toArray, .int .i64 k] w fun e w' => e = .returned (.int .i64 (k + (ctvSealed x : Int))) ∧ rSealed.has w' F cs (mkvSealed k x) ∧ Good w' F ∧ Mod F w w' := by
  obtain ⟨A1, c1, F1, rfl, hFe, ih0, h1, ih2⟩ := rSealed_open hx
  rw [hFe] at hF ⊢
  obtain ⟨x0, x1, x2⟩ := x
  simp only [ctvSealed] at kb1
  have L1 := hF
  have B1 := Rep.lt (Rep.int.slice) h1
  have hM : Mod (F1) w w := Mod.refl _ _
  go_enter Try.func31, Try.ntmps31
  go_wp2_with fail
  refine (markIntS_any _ F1 _ x1 _ (Rep.mod0 (Rep.int.slice) h1 (Mod.alloc0 _ _)) ((L1).mod0 (Mod.alloc0 _ _)) (by omega) (by omega)).mono ?_
  rintro e w1 ⟨rfl, g1, n1, m1⟩
  have hc1 : ∀ o, w1.cell? ⟨w.heap.size, o, none⟩ = _ := fun o => m1.cell (p := ⟨w.heap.size, o, none⟩) (by simp) (fun hg => by have := B1 _ hg; simp at this)
  have z1 := m1.size
  simp only [World.size_alloc] at z1
  replace hF := (hF.mod0 (Mod.alloc0 w _)).part m1 n1
  replace hM := (hM.alloc _).seq (m1.mono (fun g hg _ => by simp [hg]))
  go_wp2_with fail
  go_ret
  exact ⟨ret_int (by first | (simp only [ctvSealed]; done) | (simp only [ctvSealed]; omega)), rSealed_mk ih0 g1 ih2, hF, hM⟩

set_option maxHeartbeats 2000000 in
theorem heldSealed_any (w : World) (F : List Nat) (cs : List Value) (x : SealedD) (k : Int) (hx : rSealed.has w F cs (mkvSealed k x)) (kb0 : 0 ≤ k) (kb1 : k + (ctvSealed x : Int) ≤ 4611686018427387904) :
    Calls Try.prog 32 #[.agg cs.toArray, .int .i64 k] w fun e w' => e = .returned (.int .i64 (k + (ctvSealed x : Int))) ∧ Mod [] w w' := by
  obtain ⟨x0, x1, x2⟩ := x
  simp only [mkvSealed] at hx
  obtain ⟨A1, c1, F1, rfl, _, ih0, h1, ih2⟩ := rSealed_open hx
  simp only [ctvSealed] at kb1
  go_enter Try.func32, Try.ntmps32
  go_wp2_with fail
  refine (heldIntS_any _ F1 _ x1 _ (Rep.mod0 (Rep.int.slice) h1 (by repeat (first | exact Mod.refl _ _ | apply Mod.alloc | apply Mod.drewN | refine Mod.seq ?_ (by assumption)))) (by omega) (by omega)).mono ?_
  rintro e w1 ⟨rfl, hm1⟩
  obtain ⟨hc1, hf1⟩ := hm1.rules
  have z1 := hm1.size
  simp only [World.size_alloc] at z1
  have y1 : w.heap.size < w1.heap.size := by omega
  go_wp2_with fail
  go_ret
  exact ⟨ret_int (by first | (simp only [ctvSealed]; done) | (simp only [ctvSealed]; omega)), (by repeat (first | exact Mod.refl _ _ | apply Mod.alloc | apply Mod.drewN | refine Mod.seq ?_ (by assumption)))⟩

set_option maxHeartbeats 2000000 in
theorem markMemory_any (w : World) (F : List Nat) (cs : List Value) (x : MemoryD) (k : Int) (hx : rMemory.has w F cs x) (hF : Good w F) (kb0 : 0 ≤ k) (kb1 : k + (ctvMemory x : Int) ≤ 4611686018427387904) :
    Calls Try.prog 47 #[.agg cs.toArray, .int .i64 k] w fun e w' => e = .returned (.int .i64 (k + (ctvMemory x : Int))) ∧ rMemory.has w' F cs (mkvMemory k x) ∧ Good w' F ∧ Mod F w w' := by
  obtain ⟨A0, c0, F0, A1, c1, F1, rfl, hFe, h0, h1⟩ := rMemory_open hx
  rw [hFe] at hF ⊢
  obtain ⟨x0, x1⟩ := x
  simp only [ctvMemory] at kb1
  have L0 := hF.left
  have B0 := Rep.lt ((rBlock.slice).slice) h0
  have L1 := hF
  have B1 := Rep.lt (rBlock.slice) h1
  have hM : Mod (F0 ++ F1) w w := Mod.refl _ _
  go_enter Try.func47, Try.ntmps47
  go_wp2_with fail
  refine (markBlockSS_any _ F0 _ x0 _ (Rep.mod0 ((rBlock.slice).slice) h0 (Mod.alloc0 _ _)) ((L0).mod0 (Mod.alloc0 _ _)) (by omega) (by omega)).mono ?_
  rintro e w0 ⟨rfl, g0, n0, m0⟩
  have hc0 : ∀ o, w0.cell? ⟨w.heap.size, o, none⟩ = _ := fun o => m0.cell (p := ⟨w.heap.size, o, none⟩) (by simp) (fun hg => by have := B0 _ hg; simp at this)
  have z0 := m0.size
  simp only [World.size_alloc] at z0
  replace h1 := Rep.mod (rBlock.slice) (Rep.mod0 (rBlock.slice) h1 (Mod.alloc0 w _)) m0 (fun g hg hg' => L1.apart g (by simp [hg']) hg)
  have G1 := ((L1.right).mod0 (Mod.alloc0 w _)).mod m0 (fun g hg hg' => L1.apart g (by simp [hg']) hg)
  replace hF := (hF.mod0 (Mod.alloc0 w _)).part m0 n0
  replace hM := (hM.alloc _).seq (m0.mono (fun g hg _ => by simp [hg]))
  go_wp2_with fail
  refine (markBlockS_any _ F1 _ x1 _ h1 G1 (by omega) (by omega)).mono ?_
  rintro e w1 ⟨rfl, g1, n1, m1⟩
  have hc1 : ∀ o, w1.cell? ⟨w.heap.size, o, none⟩ = _ := fun o => m1.cell (p := ⟨w.heap.size, o, none⟩) (by simp <;> omega) (fun hg => by have := B1 _ hg; simp at this)
  simp only [hc0] at hc1
  have z1 := m1.size
  replace g0 := Rep.mod ((rBlock.slice).slice) g0 m1 (fun g hg hg' => L1.apart g (by simp [hg]) hg')
  replace hF := hF.part m1 n1
  replace hM := hM.seq (m1.mono (fun g hg _ => by simp [hg]))
  go_wp2_with fail
  go_ret
  exact ⟨ret_int (by first | (simp only [ctvMemory]; done) | (simp only [ctvMemory]; omega)), rMemory_mk g0 g1, hF, hM⟩

set_option maxHeartbeats 2000000 in
theorem heldMemory_any (w : World) (F : List Nat) (cs : List Value) (x : MemoryD) (k : Int) (hx : rMemory.has w F cs (mkvMemory k x)) (kb0 : 0 ≤ k) (kb1 : k + (ctvMemory x : Int) ≤ 4611686018427387904) :
    Calls Try.prog 48 #[.agg cs.toArray, .int .i64 k] w fun e w' => e = .returned (.int .i64 (k + (ctvMemory x : Int))) ∧ Mod [] w w' := by
  obtain ⟨x0, x1⟩ := x
  simp only [mkvMemory] at hx
  obtain ⟨A0, c0, F0, A1, c1, F1, rfl, _, h0, h1⟩ := rMemory_open hx
  simp only [ctvMemory] at kb1
  go_enter Try.func48, Try.ntmps48
  go_wp2_with fail
  refine (heldBlockSS_any _ F0 _ x0 _ (Rep.mod0 ((rBlock.slice).slice) h0 (by repeat (first | exact Mod.refl _ _ | apply Mod.alloc | apply Mod.drewN | refine Mod.seq ?_ (by assumption)))) (by omega) (by omega)).mono ?_
  rintro e w0 ⟨rfl, hm0⟩
  obtain ⟨hc0, hf0⟩ := hm0.rules
  have z0 := hm0.size
  simp only [World.size_alloc] at z0
  have y0 : w.heap.size < w0.heap.size := by omega
  go_wp2_with fail
  refine (heldBlockS_any _ F1 _ x1 _ (Rep.mod0 (rBlock.slice) h1 (by repeat (first | exact Mod.refl _ _ | apply Mod.alloc | apply Mod.drewN | refine Mod.seq ?_ (by assumption)))) (by omega) (by omega)).mono ?_
  rintro e w1 ⟨rfl, hm1⟩
  obtain ⟨hc1, hf1⟩ := hm1.rules
  have z1 := hm1.size
  have y1 : w.heap.size < w1.heap.size := by omega
  go_wp2_with fail
  go_ret
  exact ⟨ret_int (by first | (simp only [ctvMemory]; done) | (simp only [ctvMemory]; omega)), (by repeat (first | exact Mod.refl _ _ | apply Mod.alloc | apply Mod.drewN | refine Mod.seq ?_ (by assumption)))⟩


end Go.Proofs.Ythabgnhedmepjaa
