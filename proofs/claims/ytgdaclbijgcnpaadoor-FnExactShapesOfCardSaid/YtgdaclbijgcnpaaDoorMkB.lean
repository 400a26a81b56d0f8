/- Contracts of mark.. and held.. for data with texts. -/
import Derived.Test.YtgdaclbijgcnpaaDoorMkDefsT
import Derived.Test.YtgdaclbijgcnpaaDoorMkA
namespace Go.Proofs.YtgdaclbijgcnpaaDoor
open Go.RowKit
attribute [local go_sem] ext_cell

set_option maxHeartbeats 2000000 in
set_option maxRecDepth 8000 in
theorem markStringS_any (w : World) (F : List Nat) (v : Value) (xs : List ByteArray) (k : Int) (hx : SliceHas Rep.str w F [v] xs) (hF : Good w F) (h0 : 0 ≤ k) (h1 : k + ((ctL ct1) xs : Int) ≤ 4611686018427387904) :
    Calls Tryd.prog 70 #[v, .int .i64 k] w fun e w' => e = .returned (.int .i64 (k + ((ctL ct1) xs : Int))) ∧ SliceHas Rep.str w' F [v] ((mkL mkS ct1) k xs) ∧ Good w' F ∧ Mod F w w' := by
  obtain ⟨A, c, rfl, hn, _⟩ := hx.form'
  go_enter Tryd.func70, Tryd.ntmps70
  go_wp2_with fail
  go_loopw [1, 5] (fun kk i wr => ∃ (j : Nat) (K : Int), j ≤ xs.length ∧ i = .int .i64 j ∧ kk = .int .i64 K ∧ Hid (K = k + ((ctL ct1) (xs.take j) : Int)) ∧ 0 ≤ K ∧ SliceHas Rep.str wr F [.slice A xs.length c] (mkL mkS ct1 k (xs.take j) ++ xs.drop j) ∧ Good wr F ∧ Mod F w wr) (fun _ i _ => xs.length - (intOf i).toNat)
  case atStart => exact ⟨0, k, Nat.zero_le _, rfl, rfl, (show _ = _ by simp [ctL]), h0, by simpa [mkL] using hx, hF, Mod.refl _ _⟩
  case round =>
    obtain ⟨j, K, hj, rfl, rfl, HK, K0, hs, hg, hm⟩ := hrel
    by_cases hlt : j < xs.length
    · have hq : K + (ct1 xs[j] : Int) ≤ 4611686018427387904 := by
        have a1 := ctL_succ ct1 xs j hlt
        have a2 := ctL_take_le ct1 xs (j + 1)
        have a3 := HK.out
        omega
      have Hq2 := Lib.hid (show K + (ct1 xs[j] : Int) = k + ((ctL ct1) (xs.take (j + 1)) : Int) by
        have a1 := ctL_succ ct1 xs j hlt
        have a3 := HK.out
        omega)
      obtain ⟨ad, rfl⟩ : ∃ ad, A = some ad := by
        obtain ⟨ad, _, _, h, _⟩ := hs.get hlt
        exact ⟨ad, h⟩
      have hx0 := get_mid (mkL mkS ct1 k (xs.take j)) xs j (by rw [mkL_len, List.length_take]; omega) hlt
      have Hfin := Lib.hid (show (mkL mkS ct1 k (xs.take j) ++ xs.drop j).set j (mkS K xs[j]) = mkL mkS ct1 k (xs.take (j + 1)) ++ xs.drop (j + 1) by
        rw [list_set_take _ _ _ _ (by rw [mkL_len, List.length_take]; omega) hlt, mkL_succ _ _ _ _ _ hlt, ← HK.out])
      have hlen : j < (mkL mkS ct1 k (xs.take j) ++ xs.drop j).length := by rw [hs.n]; exact hlt
      have hC : (ct1 xs[j] : Int) = 1 := rfl
      go_wp2_with fail
      refine (markText_any _ K K0 (by omega)).mono ?_
      rintro e w1 ⟨rfl, hm1⟩
      replace hs := Rep.slice Rep.str |>.mod0 hs hm1
      replace hg := hg.mod0 hm1
      replace hm := hm.seq' hm1
      obtain ⟨⟨old, ho⟩, hfz, hs2, hg2, hm2⟩ := hs.store' hg hlt (j := 0) (by decide) (.string (mkS K xs[j])) xs[j] (mkS K xs[j]) hx0 (by rintro w Fk ck ⟨rfl, rfl, _⟩; exact ⟨rfl, rfl, mkS_size _ _⟩)
      simp only [show Rep.str.size = 1 from rfl, Nat.mul_one, add_zero'] at ho hfz hs2 hg2 hm2
      rw [Hfin.out] at hs2
      replace hm := hm.seq hm2
      clear hs hg hm2
      have hs := hs2
      have hg := hg2
      clear hs2 hg2
      have Hs := Lib.hid hs
      have Hg := Lib.hid hg
      have Hm := Lib.hid hm
      clear hs hg hm
      rw [hC] at hq
      have Hq3 : Hid (K + 1 = k + ((ctL ct1) (xs.take (j + 1)) : Int)) := by rw [← hC]; exact Hq2
      clear hC
      go_wp2_with fail
      go_roundw
      case rel => exact ⟨j + 1, K + 1, hlt, by go_num, rfl, Hq3, by omega, Hs.out, Hg.out, Hm.out⟩
      case measure => simp [intOf]; omega
    · obtain rfl : j = xs.length := by omega
      have hK := HK.out
      rw [List.take_length] at hK
      rw [List.take_length, List.drop_of_length_le (Nat.le_refl _), List.append_nil] at hs
      have HK2 := Lib.hid hK
      clear hK
      go_wp2_with fail
      go_ret
      exact ⟨ret_int HK2.out, hs, hg, hm⟩

set_option maxHeartbeats 2000000 in
set_option maxRecDepth 8000 in
theorem markShapeS_any (w : World) (F : List Nat) (v : Value) (xs : List ShapeD) (k : Int) (hx : SliceHas rShape w F [v] xs) (hF : Good w F) (h0 : 0 ≤ k) (h1 : k + ((ctL ctShape) xs : Int) ≤ 4611686018427387904) :
    Calls Tryd.prog 32 #[v, .int .i64 k] w fun e w' => e = .returned (.int .i64 (k + ((ctL ctShape) xs : Int))) ∧ SliceHas rShape w' F [v] ((mkL mkShape ctShape) k xs) ∧ Good w' F ∧ Mod F w w' := by
  obtain ⟨A, c, rfl, hn, _⟩ := hx.form'
  go_enter Tryd.func32, Tryd.ntmps32
  go_wp2_with fail
  go_loopw [1, 5] (fun kk i wr => ∃ (j : Nat) (K : Int), j ≤ xs.length ∧ i = .int .i64 j ∧ kk = .int .i64 K ∧ Hid (K = k + ((ctL ctShape) (xs.take j) : Int)) ∧ 0 ≤ K ∧ SliceHas rShape wr F [.slice A xs.length c] (mkL mkShape ctShape k (xs.take j) ++ xs.drop j) ∧ Good wr F ∧ Mod F w wr) (fun _ i _ => xs.length - (intOf i).toNat)
  case atStart => exact ⟨0, k, Nat.zero_le _, rfl, rfl, (show _ = _ by simp [ctL]), h0, by simpa [mkL] using hx, hF, Mod.refl _ _⟩
  case round =>
    obtain ⟨j, K, hj, rfl, rfl, HK, K0, hs, hg, hm⟩ := hrel
    by_cases hlt : j < xs.length
    · have hq : K + (ctShape xs[j] : Int) ≤ 4611686018427387904 := by
        have a1 := ctL_succ ctShape xs j hlt
        have a2 := ctL_take_le ctShape xs (j + 1)
        have a3 := HK.out
        omega
      have Hq2 := Lib.hid (show K + (ctShape xs[j] : Int) = k + ((ctL ctShape) (xs.take (j + 1)) : Int) by
        have a1 := ctL_succ ctShape xs j hlt
        have a3 := HK.out
        omega)
      obtain ⟨ad, rfl⟩ : ∃ ad, A = some ad := by
        obtain ⟨ad, _, _, h, _⟩ := hs.get hlt
        exact ⟨ad, h⟩
      have hx0 := get_mid (mkL mkShape ctShape k (xs.take j)) xs j (by rw [mkL_len, List.length_take]; omega) hlt
      have Hfin := Lib.hid (show (mkL mkShape ctShape k (xs.take j) ++ xs.drop j).set j (mkShape K xs[j]) = mkL mkShape ctShape k (xs.take (j + 1)) ++ xs.drop (j + 1) by
        rw [list_set_take _ _ _ _ (by rw [mkL_len, List.length_take]; omega) hlt, mkL_succ _ _ _ _ _ hlt, ← HK.out])
      have hlen : j < (mkL mkShape ctShape k (xs.take j) ++ xs.drop j).length := by rw [hs.n]; exact hlt
      obtain ⟨y, hy⟩ : ∃ y, xs[j] = y := ⟨_, rfl⟩
      rw [hy] at hx0 Hfin hq Hq2
      clear hy
      obtain ⟨y0, y1, y2⟩ := y
      simp only [ctShape, ct1] at hq
      have hcur := hx0
      have hlst := hlen
      go_wp2_with fail
      refine (markText_any _ _ (by omega) (by omega)).mono ?_
      rintro e w0c ⟨rfl, hm0c⟩
      replace hs := Rep.slice rShape |>.mod0 hs hm0c
      replace hg := hg.mod0 hm0c
      replace hm := hm.seq' hm0c
      obtain ⟨⟨old0, ho0⟩, hfz0, hs2, hg2, hm2⟩ := hs.store' hg hlt (j := 0) (by decide) (.string (markTextF K)) (y0, y1, y2) ((mkS K y0), y1, y2) hcur (by
        intro w Fk ck hh
        obtain ⟨A1, c1, F1, rfl, rfl, ihh0, hh1, ihh2⟩ := rShape_open hh
        exact rShape_mk (mkS_size K y0) hh1 ihh2)
      simp only [show rShape.size = 3 from rfl, add_zero'] at ho0 hfz0 hs2 hg2 hm2
      replace hm := hm.seq hm2
      clear hs hg hm2
      have hs := hs2
      have hg := hg2
      clear hs2 hg2 hcur
      have hcur := get_set (mkL mkShape ctShape k (xs.take j) ++ xs.drop j) j ((mkS K y0), y1, y2) hlen
      obtain ⟨ad2, Fk, ck, hE, hb, hca, hxk, hgk, hsub, hback⟩ := hs.inner hg hlt ((mkS K y0), y1, y2) hcur
      cases hE
      obtain ⟨A1, c1, F1, rfl, rfl, ihh0, hh1, ihh2⟩ := rShape_open hxk
      have a1 := hca.nth 0 rfl
      simp only [show rShape.size = 3 from rfl] at a1
      have L1 := hgk
      go_wp2_with fail
      refine (markStringS_any _ Fk _ y1 _ hh1 L1 (by omega) (by omega)).mono ?_
      rintro e w1c ⟨rfl, hx1, hg1, hm1⟩
      obtain ⟨hs2, hg2, hm2⟩ := hback w1c ((mkS K y0), ((mkL mkS ct1) (K + 1) y1), y2) (hm1.mono (fun g hg _ => by simp [hg])) (hgk.part hm1 hg1) (rShape_mk ihh0 hx1 ihh2)
      rw [List.set_set] at hs2
      replace hm := hm.seq hm2
      clear hs hg hm2 hca a1
      have hs := hs2
      have hg := hg2
      clear hs2 hg2 hcur
      have hcur := get_set (mkL mkShape ctShape k (xs.take j) ++ xs.drop j) j ((mkS K y0), ((mkL mkS ct1) (K + 1) y1), y2) hlen
      obtain ⟨⟨old2, ho2⟩, hfz2, hs2, hg2, hm2⟩ := hs.store' hg hlt (j := 2) (by decide) (.int .i64 (K + 1 + ((ctL ct1) y1 : Int))) ((mkS K y0), ((mkL mkS ct1) (K + 1) y1), y2) ((mkS K y0), ((mkL mkS ct1) (K + 1) y1), K + 1 + ((ctL ct1) y1 : Int)) hcur (by
        intro w Fk ck hh
        obtain ⟨A1, c1, F1, rfl, rfl, ihh0, hh1, ihh2⟩ := rShape_open hh
        exact rShape_mk ihh0 hh1 (I64.mk (by omega) (by omega)))
      simp only [show rShape.size = 3 from rfl, show (ad.add (j * 3)).add 2 = ⟨(ad.add (j * 3)).block, (ad.add (j * 3)).off + 2, none⟩ from rfl] at ho2 hfz2 hs2 hg2 hm2
      rw [List.set_set] at hs2
      replace hm := hm.seq hm2
      clear hs hg hm2
      have hs := hs2
      have hg := hg2
      clear hs2 hg2 hcur
      have hcur := get_set (mkL mkShape ctShape k (xs.take j) ++ xs.drop j) j ((mkS K y0), ((mkL mkS ct1) (K + 1) y1), K + 1 + ((ctL ct1) y1 : Int)) hlen
      have Hf2 : (mkL mkShape ctShape k (xs.take j) ++ xs.drop j).set j ((mkS K y0), ((mkL mkS ct1) (K + 1) y1), K + 1 + ((ctL ct1) y1 : Int)) = mkL mkShape ctShape k (xs.take (j + 1)) ++ xs.drop (j + 1) := Hfin.out
      rw [Hf2] at hs
      clear Hf2
      have Hs := Lib.hid hs
      have Hg := Lib.hid hg
      have Hm := Lib.hid hm
      clear hs hg hm
      have Hq3 : Hid (K + 1 + ((ctL ct1) y1 : Int) + 1 = k + ((ctL ctShape) (xs.take (j + 1)) : Int)) := by
        have := Hq2.out
        simp only [ctShape, ct1] at this
        show _ = _
        omega
      go_wp2_with fail
      go_roundw
      case rel => exact ⟨j + 1, _, hlt, by go_num, rfl, Hq3, by omega, Hs.out, Hg.out, Hm.out⟩
      case measure => simp [intOf]; omega
    · obtain rfl : j = xs.length := by omega
      have hK := HK.out
      rw [List.take_length] at hK
      rw [List.take_length, List.drop_of_length_le (Nat.le_refl _), List.append_nil] at hs
      have HK2 := Lib.hid hK
      clear hK
      go_wp2_with fail
      go_ret
      exact ⟨ret_int HK2.out, hs, hg, hm⟩

set_option maxHeartbeats 2000000 in
set_option maxRecDepth 8000 in
theorem markNamedS_any (w : World) (F : List Nat) (v : Value) (xs : List NamedD) (k : Int) (hx : SliceHas rNamed w F [v] xs) (hF : Good w F) (h0 : 0 ≤ k) (h1 : k + ((ctL ctNamed) xs : Int) ≤ 4611686018427387904) :
    Calls Tryd.prog 31 #[v, .int .i64 k] w fun e w' => e = .returned (.int .i64 (k + ((ctL ctNamed) xs : Int))) ∧ SliceHas rNamed w' F [v] ((mkL mkNamed ctNamed) k xs) ∧ Good w' F ∧ Mod F w w' := by
  obtain ⟨A, c, rfl, hn, _⟩ := hx.form'
  go_enter Tryd.func31, Tryd.ntmps31
  go_wp2_with fail
  go_loopw [1, 5] (fun kk i wr => ∃ (j : Nat) (K : Int), j ≤ xs.length ∧ i = .int .i64 j ∧ kk = .int .i64 K ∧ Hid (K = k + ((ctL ctNamed) (xs.take j) : Int)) ∧ 0 ≤ K ∧ SliceHas rNamed wr F [.slice A xs.length c] (mkL mkNamed ctNamed k (xs.take j) ++ xs.drop j) ∧ Good wr F ∧ Mod F w wr) (fun _ i _ => xs.length - (intOf i).toNat)
  case atStart => exact ⟨0, k, Nat.zero_le _, rfl, rfl, (show _ = _ by simp [ctL]), h0, by simpa [mkL] using hx, hF, Mod.refl _ _⟩
  case round =>
    obtain ⟨j, K, hj, rfl, rfl, HK, K0, hs, hg, hm⟩ := hrel
    by_cases hlt : j < xs.length
    · have hq : K + (ctNamed xs[j] : Int) ≤ 4611686018427387904 := by
        have a1 := ctL_succ ctNamed xs j hlt
        have a2 := ctL_take_le ctNamed xs (j + 1)
        have a3 := HK.out
        omega
      have Hq2 := Lib.hid (show K + (ctNamed xs[j] : Int) = k + ((ctL ctNamed) (xs.take (j + 1)) : Int) by
        have a1 := ctL_succ ctNamed xs j hlt
        have a3 := HK.out
        omega)
      obtain ⟨ad, rfl⟩ : ∃ ad, A = some ad := by
        obtain ⟨ad, _, _, h, _⟩ := hs.get hlt
        exact ⟨ad, h⟩
      have hx0 := get_mid (mkL mkNamed ctNamed k (xs.take j)) xs j (by rw [mkL_len, List.length_take]; omega) hlt
      have Hfin := Lib.hid (show (mkL mkNamed ctNamed k (xs.take j) ++ xs.drop j).set j (mkNamed K xs[j]) = mkL mkNamed ctNamed k (xs.take (j + 1)) ++ xs.drop (j + 1) by
        rw [list_set_take _ _ _ _ (by rw [mkL_len, List.length_take]; omega) hlt, mkL_succ _ _ _ _ _ hlt, ← HK.out])
      have hlen : j < (mkL mkNamed ctNamed k (xs.take j) ++ xs.drop j).length := by rw [hs.n]; exact hlt
      obtain ⟨y, hy⟩ : ∃ y, xs[j] = y := ⟨_, rfl⟩
      rw [hy] at hx0 Hfin hq Hq2
      clear hy
      obtain ⟨y0, ⟨y1, y2⟩⟩ := y
      simp only [ctNamed, ctTable, ct1] at hq
      have hcur := hx0
      have hlst := hlen
      go_wp2_with fail
      refine (markText_any _ _ (by omega) (by omega)).mono ?_
      rintro e w0c ⟨rfl, hm0c⟩
      replace hs := Rep.slice rNamed |>.mod0 hs hm0c
      replace hg := hg.mod0 hm0c
      replace hm := hm.seq' hm0c
      obtain ⟨⟨old0, ho0⟩, hfz0, hs2, hg2, hm2⟩ := hs.store' hg hlt (j := 0) (by decide) (.string (markTextF K)) (y0, (y1, y2)) ((mkS K y0), (y1, y2)) hcur (by
        intro w Fk ck hh
        obtain ⟨A1, c1, F1, A2, c2, F2, rfl, rfl, ihh0, hh1, hh2⟩ := rNamed_open hh
        exact rNamed_mk (mkS_size K y0) hh1 hh2)
      simp only [show rNamed.size = 3 from rfl, add_zero'] at ho0 hfz0 hs2 hg2 hm2
      replace hm := hm.seq hm2
      clear hs hg hm2
      have hs := hs2
      have hg := hg2
      clear hs2 hg2 hcur
      have hcur := get_set (mkL mkNamed ctNamed k (xs.take j) ++ xs.drop j) j ((mkS K y0), (y1, y2)) hlen
      obtain ⟨ad2, Fk, ck, hE, hb, hca, hxk, hgk, hsub, hback⟩ := hs.inner hg hlt ((mkS K y0), (y1, y2)) hcur
      cases hE
      obtain ⟨A1, c1, F1, A2, c2, F2, rfl, rfl, ihh0, hh1, hh2⟩ := rNamed_open hxk
      have a1 := hca.nth 0 rfl
      simp only [show rNamed.size = 3 from rfl] at a1
      have L1 := hgk.left
      have L2 := hgk
      go_wp2_with fail
      refine (markStringS_any _ F1 _ y1 _ hh1 L1 (by omega) (by omega)).mono ?_
      rintro e w1c ⟨rfl, hx1, hg1, hm1⟩
      replace hh2 := Rep.mod ((Rep.int.slice).slice) hh2 hm1 (fun g hg hg' => L2.apart g (by simp [hg']) hg)
      obtain ⟨hs2, hg2, hm2⟩ := hback w1c ((mkS K y0), (((mkL mkS ct1) (K + 1) y1), y2)) (hm1.mono (fun g hg _ => by simp [hg])) (hgk.part hm1 hg1) (rNamed_mk ihh0 hx1 hh2)
      rw [List.set_set] at hs2
      replace hm := hm.seq hm2
      clear hs hg hm2 hca a1
      have hs := hs2
      have hg := hg2
      clear hs2 hg2 hcur
      have hcur := get_set (mkL mkNamed ctNamed k (xs.take j) ++ xs.drop j) j ((mkS K y0), (((mkL mkS ct1) (K + 1) y1), y2)) hlen
      obtain ⟨ad2, Fk, ck, hE, hb, hca, hxk, hgk, hsub, hback⟩ := hs.inner hg hlt ((mkS K y0), (((mkL mkS ct1) (K + 1) y1), y2)) hcur
      cases hE
      obtain ⟨A1, c1, F1, A2, c2, F2, rfl, rfl, ihh0, hh1, hh2⟩ := rNamed_open hxk
      have a2 := hca.nth 1 rfl
      simp only [show rNamed.size = 3 from rfl] at a2
      have L1 := hgk.left
      have L2 := hgk
      go_wp2_with fail
      refine (markIntSS_any _ F2 _ y2 _ hh2 L2.right (by omega) (by omega)).mono ?_
      rintro e w2c ⟨rfl, hx2, hg2, hm2⟩
      replace hh1 := Rep.mod (Rep.str.slice) hh1 hm2 (fun g hg hg' => L2.apart g (by simp [hg]) hg')
      obtain ⟨hs2, hg2, hm2⟩ := hback w2c ((mkS K y0), (((mkL mkS ct1) (K + 1) y1), ((mkL (mkL mkI ct1) (ctL ct1)) (K + 1 + ((ctL ct1) y1 : Int)) y2))) (hm2.mono (fun g hg _ => by simp [hg])) (hgk.part hm2 hg2) (rNamed_mk ihh0 hh1 hx2)
      rw [List.set_set] at hs2
      replace hm := hm.seq hm2
      clear hs hg hm2 hca a2
      have hs := hs2
      have hg := hg2
      clear hs2 hg2 hcur
      have hcur := get_set (mkL mkNamed ctNamed k (xs.take j) ++ xs.drop j) j ((mkS K y0), (((mkL mkS ct1) (K + 1) y1), ((mkL (mkL mkI ct1) (ctL ct1)) (K + 1 + ((ctL ct1) y1 : Int)) y2))) hlen
      have Hf2 : (mkL mkNamed ctNamed k (xs.take j) ++ xs.drop j).set j ((mkS K y0), (((mkL mkS ct1) (K + 1) y1), ((mkL (mkL mkI ct1) (ctL ct1)) (K + 1 + ((ctL ct1) y1 : Int)) y2))) = mkL mkNamed ctNamed k (xs.take (j + 1)) ++ xs.drop (j + 1) := Hfin.out
      rw [Hf2] at hs
      clear Hf2
      have Hs := Lib.hid hs
      have Hg := Lib.hid hg
      have Hm := Lib.hid hm
      clear hs hg hm
      have Hq3 : Hid (K + 1 + ((ctL ct1) y1 : Int) + ((ctL (ctL ct1)) y2 : Int) = k + ((ctL ctNamed) (xs.take (j + 1)) : Int)) := by
        have := Hq2.out
        simp only [ctNamed, ctTable, ct1] at this
        show _ = _
        omega
      go_wp2_with fail
      go_roundw
      case rel => exact ⟨j + 1, _, hlt, by go_num, rfl, Hq3, by omega, Hs.out, Hg.out, Hm.out⟩
      case measure => simp [intOf]; omega
    · obtain rfl : j = xs.length := by omega
      have hK := HK.out
      rw [List.take_length] at hK
      rw [List.take_length, List.drop_of_length_le (Nat.le_refl _), List.append_nil] at hs
      have HK2 := Lib.hid hK
      clear hK
      go_wp2_with fail
      go_ret
      exact ⟨ret_int HK2.out, hs, hg, hm⟩


end Go.Proofs.YtgdaclbijgcnpaaDoor
