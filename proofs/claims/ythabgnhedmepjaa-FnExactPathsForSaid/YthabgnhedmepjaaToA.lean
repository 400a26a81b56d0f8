/- Contracts of to.. for slices of plain values and for structs of plain values. -/
import Derived.Test.YthabgnhedmepjaaSz
import Derived.Test.YthabgnhedmepjaaEqA
namespace Go.Proofs.Ythabgnhedmepjaa
open Go.RowKit
attribute [local go_sem] ext_cell

set_option maxHeartbeats 2000000 in
theorem toIntS_any (w : World) (F : List Nat) (v : Value) (xs : List Int) (hx : SliceHas Rep.int w F [v] xs) (hn : (szL szZ) xs ≤ 1048576) :
    Calls Try.prog 26 #[v] w fun e w' => ∃ v', e = .returned v' ∧ Fresh (Rep.int.slice) w w' [v'] xs := by
  obtain ⟨A, c, rfl, hl, _⟩ := hx.form'
  have hn1 := szL_len szZ xs
  have hmk := make_eq (P := Try.prog) 39 3 (.int .i64 0) 1 8 Try.underlying39 (by kernel_rfl) xs.length (by omega) hl
  go_enter Try.func26, Try.ntmps26
  go_wp2_with fail
  go_loopw [4] (fun i wr => ∃ (k : Nat) (G : List Nat), k ≤ xs.length ∧ i = .int .i64 k ∧ SliceHas Rep.int wr G [.slice (some ⟨w.heap.size, 0, none⟩) xs.length xs.length] (xs.take k ++ (List.replicate xs.length 0).drop k) ∧ Good wr G ∧ (∀ g ∈ G, w.heap.size ≤ g) ∧ Mod [] w wr) (fun i _ => xs.length - (intOf i).toNat)
  case atStart =>
    refine ⟨0, [w.heap.size], Nat.zero_le _, rfl, ?_, (Good.nil w).cons _ _, by simp, Mod.alloc0 _ _⟩
    have h := SliceHas.lit (e := Rep.int) (t := 3) (n := xs.length) (all_made (e := Rep.int) (z := #[.int .i64 0]) (zx := 0) rfl (by decide) w ⟨rfl, rfl, i64_zero⟩ xs.length) (by simp) (by unfold maxLen; omega)
    simpa only [show Rep.int.size = 1 from rfl, Nat.mul_one, List.take_zero, List.drop_zero, List.nil_append] using h
  case round =>
    obtain ⟨k, G, hk, rfl, hs, hg, hge, hB⟩ := hrel
    by_cases hlt : k < xs.length
    · have hx' : SliceHas Rep.int wr F [.slice A xs.length c] xs := Rep.slice Rep.int |>.mod0 hx hB
      have hq := szL_get szZ xs k hlt
      obtain ⟨ad, rfl, a0, hi⟩ := hx'.int_at hlt
      obtain ⟨od, G2, hod, hin, hsome, hfr, hput, hgood, hmod, hsub⟩ := SliceHas.put hs hg hlt (show Rep.int.has wr [] [.int .i64 xs[k]] xs[k] from ⟨rfl, rfl, hi⟩) (Good.nil _) (by simp)
      have hset := list_set_take (xs.take k) (List.replicate xs.length 0) k xs[k] (by rw [List.length_take]; omega) (by rw [List.length_replicate]; exact hlt)
      rw [← List.take_succ_eq_append_getElem hlt] at hset
      rw [hset] at hput
      clear hset
      cases hod
      simp only [show Rep.int.size = 1 from rfl, Nat.mul_one, putCells, Addr.add_lit, Nat.zero_add, Nat.add_zero] at hput hgood hmod hfr
      obtain ⟨o0, p0⟩ : ∃ u, wr.cell? ⟨w.heap.size, k, none⟩ = some u := Option.isSome_iff_exists.1 (by have := hsome 0 (by decide); simpa only [show Rep.int.size = 1 from rfl, Nat.mul_one, Addr.add_lit, Nat.zero_add, Nat.add_zero] using this)
      have Hput := Lib.hid hput
      have Hgood := Lib.hid hgood
      have Hmod := Lib.hid hmod
      clear hput hgood hmod hs
      go_wp2_with fail
      go_roundw
      case rel => exact ⟨k + 1, G2, hlt, by go_num, Hput.out, Hgood.out, (fun g hg => by rcases hsub g hg with h | h <;> first | exact hge g h | cases h), (hB.trans (Hmod.out)).drop (fun g hg => hge g (by simpa using hg))⟩
      case measure => simp [intOf]; omega
    · obtain rfl : k = xs.length := by omega
      rw [List.take_length, List.drop_of_length_le (by simp), List.append_nil] at hs
      go_wp2_with fail
      go_ret
      exact ⟨_, rfl, G, hs, hg, hge, hB⟩




set_option maxHeartbeats 2000000 in
theorem toPair_any (w : World) (F : List Nat) (cs : List Value) (x : PairD) (hx : rPair.has w F cs x) (hn : szPair x ≤ 1048576) :
    Calls Try.prog 56 #[.agg cs.toArray] w fun e w' => ∃ cs', e = .returned (.agg cs'.toArray) ∧ Fresh rPair w w' cs' x := by
  obtain ⟨rfl, _, ih0, ih1⟩ := rPair_open hx
  obtain ⟨x0, x1⟩ := x
  go_enter Try.func56, Try.ntmps56
  go_wp2_with fail
  refine bodyPost_ret (v := .agg #[.int .i64 x0, .int .i64 x1]) (by simp [results, Try.results56, go_sem]) rfl ⟨_, rfl, ?_⟩
  exact Fresh.shut (n := w.heap.size + 3) (B := [w.heap.size, w.heap.size + 1, w.heap.size + 1 + 1]) (rPair_mk ih0 ih1) (Good.nil _) (by simp) (by omega) (by simp <;> omega) (Mod.refl _ _) (by repeat (first | exact Mod.refl _ _ | refine Mod.setCell ?_ (by simp) _ | apply Mod.alloc | apply Mod.drewN | refine Mod.seq' ?_ (by assumption)))

set_option maxHeartbeats 2000000 in
theorem toPairS_any (w : World) (F : List Nat) (v : Value) (xs : List PairD) (hx : SliceHas rPair w F [v] xs) (hn : (szL szPair) xs ≤ 1048576) :
    Calls Try.prog 18 #[v] w fun e w' => ∃ v', e = .returned v' ∧ Fresh (rPair.slice) w w' [v'] xs := by
  obtain ⟨A, c, rfl, hl, _⟩ := hx.form'
  have hn1 := szL_len szPair xs
  have hmk := make_eq (P := Try.prog) 32 83 (.agg #[.int .i64 0, .int .i64 0]) 2 16 Try.underlying32 (by kernel_rfl) xs.length (by omega) hl
  go_enter Try.func18, Try.ntmps18
  go_wp2_with fail
  go_loopw [4] (fun i wr => ∃ (k : Nat) (G : List Nat), k ≤ xs.length ∧ i = .int .i64 k ∧ SliceHas rPair wr G [.slice (some ⟨w.heap.size, 0, none⟩) xs.length xs.length] (xs.take k ++ (List.replicate xs.length (0, 0)).drop k) ∧ Good wr G ∧ (∀ g ∈ G, w.heap.size ≤ g) ∧ Mod [] w wr) (fun i _ => xs.length - (intOf i).toNat)
  case atStart =>
    refine ⟨0, [w.heap.size], Nat.zero_le _, rfl, ?_, (Good.nil w).cons _ _, by simp, Mod.alloc0 _ _⟩
    have h := SliceHas.lit (e := rPair) (t := 83) (n := xs.length) (all_made (e := rPair) (z := #[.int .i64 0, .int .i64 0]) (zx := (0, 0)) rfl (by decide) w (rPair_mk i64_zero i64_zero) xs.length) (by simp) (by unfold maxLen; omega)
    simpa only [show rPair.size = 2 from rfl, Nat.mul_one, List.take_zero, List.drop_zero, List.nil_append] using h
  case round =>
    obtain ⟨k, G, hk, rfl, hs, hg, hge, hB⟩ := hrel
    by_cases hlt : k < xs.length
    · have hx' : SliceHas rPair wr F [.slice A xs.length c] xs := Rep.slice rPair |>.mod0 hx hB
      have hq := szL_get szPair xs k hlt
      obtain ⟨ad, Fk, ck, rfl, _, _, _, hca, hxk⟩ := hx'.get hlt
      have hxk2 := hxk
      obtain ⟨rfl, _, _, _⟩ := rPair_open hxk
      have a0 : wr.cell? (ad.add (k * 2)) = some (.int .i64 xs[k].1) := hca.zero
      have a1 : wr.cell? ⟨(ad.add (k * 2)).block, (ad.add (k * 2)).off + 1, none⟩ = some (.int .i64 xs[k].2) := hca.nth 0 rfl
      clear hca
      go_wp2_with fail
      refine (toPair_any _ _ _ _ hxk2 (by omega)).mono ?_
      rintro e w1 ⟨cs1, rfl, G1, g1, k1, l1, m1⟩
      have hs1 := Rep.slice rPair |>.mod0 hs m1
      have hg1 := hg.mod0 m1
      obtain ⟨od, G2, hod, hin, hsome, hfr, hput, hgood, hmod, hsub⟩ := SliceHas.put hs1 hg1 hlt g1 k1 (fun g hg' hgG => by have := l1 g hg'; have := hg.lt g hgG; omega)
      obtain ⟨rfl, _, ij0, ij1⟩ := rPair_open g1
      have hset := list_set_take (xs.take k) (List.replicate xs.length (0, 0)) k xs[k] (by rw [List.length_take]; omega) (by rw [List.length_replicate]; exact hlt)
      rw [← List.take_succ_eq_append_getElem hlt] at hset
      rw [hset] at hput
      clear hset
      cases hod
      simp only [show rPair.size = 2 from rfl, Nat.mul_one, putCells, Addr.add_lit, Nat.zero_add, Nat.add_zero] at hput hgood hmod hfr
      obtain ⟨o0, p0⟩ : ∃ u, w1.cell? ⟨w.heap.size, k * 2, none⟩ = some u := Option.isSome_iff_exists.1 (by have := hsome 0 (by decide); simpa only [show rPair.size = 2 from rfl, Nat.mul_one, Addr.add_lit, Nat.zero_add, Nat.add_zero] using this)
      obtain ⟨o1, p1⟩ : ∃ u, w1.cell? ⟨w.heap.size, k * 2 + 1, none⟩ = some u := Option.isSome_iff_exists.1 (by have := hsome 1 (by decide); simpa only [show rPair.size = 2 from rfl, Nat.mul_one, Addr.add_lit, Nat.zero_add, Nat.add_zero] using this)
      have Hput := Lib.hid hput
      have Hgood := Lib.hid hgood
      have Hmod := Lib.hid hmod
      clear hput hgood hmod hs hs1
      go_wp2_with fail
      go_roundw
      case rel => exact ⟨k + 1, G2, hlt, by go_num, Hput.out, Hgood.out, (fun g hg => by
        rcases hsub g hg with h | h
        · exact hge g h
        · have := l1 g h; have := hB.size; omega), ((hB.seq m1).trans (Hmod.out)).drop (fun g hg => hge g (by simpa using hg))⟩
      case measure => simp [intOf]; omega
    · obtain rfl : k = xs.length := by omega
      rw [List.take_length, List.drop_of_length_le (by simp), List.append_nil] at hs
      go_wp2_with fail
      go_ret
      exact ⟨_, rfl, G, hs, hg, hge, hB⟩



set_option maxHeartbeats 2000000 in
theorem toBlock_any (w : World) (F : List Nat) (cs : List Value) (x : BlockD) (hx : rBlock.has w F cs x) (hn : szBlock x ≤ 1048576) :
    Calls Try.prog 97 #[.agg cs.toArray] w fun e w' => ∃ cs', e = .returned (.agg cs'.toArray) ∧ Fresh rBlock w w' cs' x := by
  obtain ⟨rfl, _, ih0, ih1, ih2⟩ := rBlock_open hx
  obtain ⟨x0, x1, x2⟩ := x
  go_enter Try.func97, Try.ntmps97
  go_wp2_with fail
  refine bodyPost_ret (v := .agg #[.int .i64 x0, .int .i64 x1, .int .i64 x2]) (by simp [results, Try.results97, go_sem]) rfl ⟨_, rfl, ?_⟩
  exact Fresh.shut (n := w.heap.size + 3) (B := [w.heap.size, w.heap.size + 1, w.heap.size + 1 + 1]) (rBlock_mk ih0 ih1 ih2) (Good.nil _) (by simp) (by omega) (by simp <;> omega) (Mod.refl _ _) (by repeat (first | exact Mod.refl _ _ | refine Mod.setCell ?_ (by simp) _ | apply Mod.alloc | apply Mod.drewN | refine Mod.seq' ?_ (by assumption)))

set_option maxHeartbeats 2000000 in
theorem toBlockS_any (w : World) (F : List Nat) (v : Value) (xs : List BlockD) (hx : SliceHas rBlock w F [v] xs) (hn : (szL szBlock) xs ≤ 1048576) :
    Calls Try.prog 73 #[v] w fun e w' => ∃ v', e = .returned v' ∧ Fresh (rBlock.slice) w w' [v'] xs := by
  obtain ⟨A, c, rfl, hl, _⟩ := hx.form'
  have hn1 := szL_len szBlock xs
  have hmk := make_eq (P := Try.prog) 56 98 (.agg #[.int .i64 0, .int .i64 0, .int .i64 0]) 3 24 Try.underlying56 (by kernel_rfl) xs.length (by omega) hl
  go_enter Try.func73, Try.ntmps73
  go_wp2_with fail
  go_loopw [4] (fun i wr => ∃ (k : Nat) (G : List Nat), k ≤ xs.length ∧ i = .int .i64 k ∧ SliceHas rBlock wr G [.slice (some ⟨w.heap.size, 0, none⟩) xs.length xs.length] (xs.take k ++ (List.replicate xs.length (0, 0, 0)).drop k) ∧ Good wr G ∧ (∀ g ∈ G, w.heap.size ≤ g) ∧ Mod [] w wr) (fun i _ => xs.length - (intOf i).toNat)
  case atStart =>
    refine ⟨0, [w.heap.size], Nat.zero_le _, rfl, ?_, (Good.nil w).cons _ _, by simp, Mod.alloc0 _ _⟩
    have h := SliceHas.lit (e := rBlock) (t := 98) (n := xs.length) (all_made (e := rBlock) (z := #[.int .i64 0, .int .i64 0, .int .i64 0]) (zx := (0, 0, 0)) rfl (by decide) w (rBlock_mk i64_zero i64_zero i64_zero) xs.length) (by simp) (by unfold maxLen; omega)
    simpa only [show rBlock.size = 3 from rfl, Nat.mul_one, List.take_zero, List.drop_zero, List.nil_append] using h
  case round =>
    obtain ⟨k, G, hk, rfl, hs, hg, hge, hB⟩ := hrel
    by_cases hlt : k < xs.length
    · have hx' : SliceHas rBlock wr F [.slice A xs.length c] xs := Rep.slice rBlock |>.mod0 hx hB
      have hq := szL_get szBlock xs k hlt
      obtain ⟨ad, Fk, ck, rfl, _, _, _, hca, hxk⟩ := hx'.get hlt
      have hxk2 := hxk
      obtain ⟨rfl, _, _, _, _⟩ := rBlock_open hxk
      have a0 : wr.cell? (ad.add (k * 3)) = some (.int .i64 xs[k].1) := hca.zero
      have a1 : wr.cell? ⟨(ad.add (k * 3)).block, (ad.add (k * 3)).off + 1, none⟩ = some (.int .i64 xs[k].2.1) := hca.nth 0 rfl
      have a2 : wr.cell? ⟨(ad.add (k * 3)).block, (ad.add (k * 3)).off + 2, none⟩ = some (.int .i64 xs[k].2.2) := hca.nth 1 rfl
      clear hca
      go_wp2_with fail
      refine (toBlock_any _ _ _ _ hxk2 (by omega)).mono ?_
      rintro e w1 ⟨cs1, rfl, G1, g1, k1, l1, m1⟩
      have hs1 := Rep.slice rBlock |>.mod0 hs m1
      have hg1 := hg.mod0 m1
      obtain ⟨od, G2, hod, hin, hsome, hfr, hput, hgood, hmod, hsub⟩ := SliceHas.put hs1 hg1 hlt g1 k1 (fun g hg' hgG => by have := l1 g hg'; have := hg.lt g hgG; omega)
      obtain ⟨rfl, _, ij0, ij1, ij2⟩ := rBlock_open g1
      have hset := list_set_take (xs.take k) (List.replicate xs.length (0, 0, 0)) k xs[k] (by rw [List.length_take]; omega) (by rw [List.length_replicate]; exact hlt)
      rw [← List.take_succ_eq_append_getElem hlt] at hset
      rw [hset] at hput
      clear hset
      cases hod
      simp only [show rBlock.size = 3 from rfl, Nat.mul_one, putCells, Addr.add_lit, Nat.zero_add, Nat.add_zero] at hput hgood hmod hfr
      obtain ⟨o0, p0⟩ : ∃ u, w1.cell? ⟨w.heap.size, k * 3, none⟩ = some u := Option.isSome_iff_exists.1 (by have := hsome 0 (by decide); simpa only [show rBlock.size = 3 from rfl, Nat.mul_one, Addr.add_lit, Nat.zero_add, Nat.add_zero] using this)
      obtain ⟨o1, p1⟩ : ∃ u, w1.cell? ⟨w.heap.size, k * 3 + 1, none⟩ = some u := Option.isSome_iff_exists.1 (by have := hsome 1 (by decide); simpa only [show rBlock.size = 3 from rfl, Nat.mul_one, Addr.add_lit, Nat.zero_add, Nat.add_zero] using this)
      obtain ⟨o2, p2⟩ : ∃ u, w1.cell? ⟨w.heap.size, k * 3 + 2, none⟩ = some u := Option.isSome_iff_exists.1 (by have := hsome 2 (by decide); simpa only [show rBlock.size = 3 from rfl, Nat.mul_one, Addr.add_lit, Nat.zero_add, Nat.add_zero] using this)
      have Hput := Lib.hid hput
      have Hgood := Lib.hid hgood
      have Hmod := Lib.hid hmod
      clear hput hgood hmod hs hs1
      go_wp2_with fail
      go_roundw
      case rel => exact ⟨k + 1, G2, hlt, by go_num, Hput.out, Hgood.out, (fun g hg => by
        rcases hsub g hg with h | h
        · exact hge g h
        · have := l1 g h; have := hB.size; omega), ((hB.seq m1).trans (Hmod.out)).drop (fun g hg => hge g (by simpa using hg))⟩
      case measure => simp [intOf]; omega
    · obtain rfl : k = xs.length := by omega
      rw [List.take_length, List.drop_of_length_le (by simp), List.append_nil] at hs
      go_wp2_with fail
      go_ret
      exact ⟨_, rfl, G, hs, hg, hge, hB⟩

set_option maxHeartbeats 2000000 in
theorem toUse_any (w : World) (F : List Nat) (cs : List Value) (x : UseD) (hx : rUse.has w F cs x) (hn : szUse x ≤ 1048576) :
    Calls Try.prog 93 #[.agg cs.toArray] w fun e w' => ∃ cs', e = .returned (.agg cs'.toArray) ∧ Fresh rUse w w' cs' x := by
  obtain ⟨rfl, _, ih0, ih2, ih3⟩ := rUse_open hx
  obtain ⟨x0, x1, x2, x3⟩ := x
  go_enter Try.func93, Try.ntmps93
  go_wp2_with fail
  refine bodyPost_ret (v := .agg #[.int .i64 x0, .bool x1, .int .i64 x2, .int .i64 x3]) (by simp [results, Try.results93, go_sem]) rfl ⟨_, rfl, ?_⟩
  exact Fresh.shut (n := w.heap.size + 3) (B := [w.heap.size, w.heap.size + 1, w.heap.size + 1 + 1]) (rUse_mk ih0 ih2 ih3) (Good.nil _) (by simp) (by omega) (by simp <;> omega) (Mod.refl _ _) (by repeat (first | exact Mod.refl _ _ | refine Mod.setCell ?_ (by simp) _ | apply Mod.alloc | apply Mod.drewN | refine Mod.seq' ?_ (by assumption)))

set_option maxHeartbeats 2000000 in
theorem toUseS_any (w : World) (F : List Nat) (v : Value) (xs : List UseD) (hx : SliceHas rUse w F [v] xs) (hn : (szL szUse) xs ≤ 1048576) :
    Calls Try.prog 51 #[v] w fun e w' => ∃ v', e = .returned v' ∧ Fresh (rUse.slice) w w' [v'] xs := by
  obtain ⟨A, c, rfl, hl, _⟩ := hx.form'
  have hn1 := szL_len szUse xs
  have hmk := make_eq (P := Try.prog) 74 113 (.agg #[.int .i64 0, .bool false, .int .i64 0, .int .i64 0]) 4 32 Try.underlying74 (by kernel_rfl) xs.length (by omega) hl
  go_enter Try.func51, Try.ntmps51
  go_wp2_with fail
  go_loopw [4] (fun i wr => ∃ (k : Nat) (G : List Nat), k ≤ xs.length ∧ i = .int .i64 k ∧ SliceHas rUse wr G [.slice (some ⟨w.heap.size, 0, none⟩) xs.length xs.length] (xs.take k ++ (List.replicate xs.length (0, false, 0, 0)).drop k) ∧ Good wr G ∧ (∀ g ∈ G, w.heap.size ≤ g) ∧ Mod [] w wr) (fun i _ => xs.length - (intOf i).toNat)
  case atStart =>
    refine ⟨0, [w.heap.size], Nat.zero_le _, rfl, ?_, (Good.nil w).cons _ _, by simp, Mod.alloc0 _ _⟩
    have h := SliceHas.lit (e := rUse) (t := 113) (n := xs.length) (all_made (e := rUse) (z := #[.int .i64 0, .bool false, .int .i64 0, .int .i64 0]) (zx := (0, false, 0, 0)) rfl (by decide) w (rUse_mk i64_zero i64_zero i64_zero) xs.length) (by simp) (by unfold maxLen; omega)
    simpa only [show rUse.size = 4 from rfl, Nat.mul_one, List.take_zero, List.drop_zero, List.nil_append] using h
  case round =>
    obtain ⟨k, G, hk, rfl, hs, hg, hge, hB⟩ := hrel
    by_cases hlt : k < xs.length
    · have hx' : SliceHas rUse wr F [.slice A xs.length c] xs := Rep.slice rUse |>.mod0 hx hB
      have hq := szL_get szUse xs k hlt
      obtain ⟨ad, Fk, ck, rfl, _, _, _, hca, hxk⟩ := hx'.get hlt
      have hxk2 := hxk
      obtain ⟨rfl, _, _, _, _⟩ := rUse_open hxk
      have a0 : wr.cell? (ad.add (k * 4)) = some (.int .i64 xs[k].1) := hca.zero
      have a1 : wr.cell? ⟨(ad.add (k * 4)).block, (ad.add (k * 4)).off + 1, none⟩ = some (.bool xs[k].2.1) := hca.nth 0 rfl
      have a2 : wr.cell? ⟨(ad.add (k * 4)).block, (ad.add (k * 4)).off + 2, none⟩ = some (.int .i64 xs[k].2.2.1) := hca.nth 1 rfl
      have a3 : wr.cell? ⟨(ad.add (k * 4)).block, (ad.add (k * 4)).off + 3, none⟩ = some (.int .i64 xs[k].2.2.2) := hca.nth 2 rfl
      clear hca
      go_wp2_with fail
      refine (toUse_any _ _ _ _ hxk2 (by omega)).mono ?_
      rintro e w1 ⟨cs1, rfl, G1, g1, k1, l1, m1⟩
      have hs1 := Rep.slice rUse |>.mod0 hs m1
      have hg1 := hg.mod0 m1
      obtain ⟨od, G2, hod, hin, hsome, hfr, hput, hgood, hmod, hsub⟩ := SliceHas.put hs1 hg1 hlt g1 k1 (fun g hg' hgG => by have := l1 g hg'; have := hg.lt g hgG; omega)
      obtain ⟨rfl, _, ij0, ij2, ij3⟩ := rUse_open g1
      have hset := list_set_take (xs.take k) (List.replicate xs.length (0, false, 0, 0)) k xs[k] (by rw [List.length_take]; omega) (by rw [List.length_replicate]; exact hlt)
      rw [← List.take_succ_eq_append_getElem hlt] at hset
      rw [hset] at hput
      clear hset
      cases hod
      simp only [show rUse.size = 4 from rfl, Nat.mul_one, putCells, Addr.add_lit, Nat.zero_add, Nat.add_zero] at hput hgood hmod hfr
      obtain ⟨o0, p0⟩ : ∃ u, w1.cell? ⟨w.heap.size, k * 4, none⟩ = some u := Option.isSome_iff_exists.1 (by have := hsome 0 (by decide); simpa only [show rUse.size = 4 from rfl, Nat.mul_one, Addr.add_lit, Nat.zero_add, Nat.add_zero] using this)
      obtain ⟨o1, p1⟩ : ∃ u, w1.cell? ⟨w.heap.size, k * 4 + 1, none⟩ = some u := Option.isSome_iff_exists.1 (by have := hsome 1 (by decide); simpa only [show rUse.size = 4 from rfl, Nat.mul_one, Addr.add_lit, Nat.zero_add, Nat.add_zero] using this)
      obtain ⟨o2, p2⟩ : ∃ u, w1.cell? ⟨w.heap.size, k * 4 + 2, none⟩ = some u := Option.isSome_iff_exists.1 (by have := hsome 2 (by decide); simpa only [show rUse.size = 4 from rfl, Nat.mul_one, Addr.add_lit, Nat.zero_add, Nat.add_zero] using this)
      obtain ⟨o3, p3⟩ : ∃ u, w1.cell? ⟨w.heap.size, k * 4 + 3, none⟩ = some u := Option.isSome_iff_exists.1 (by have := hsome 3 (by decide); simpa only [show rUse.size = 4 from rfl, Nat.mul_one, Addr.add_lit, Nat.zero_add, Nat.add_zero] using this)
      have Hput := Lib.hid hput
      have Hgood := Lib.hid hgood
      have Hmod := Lib.hid hmod
      clear hput hgood hmod hs hs1
      go_wp2_with fail
      go_roundw
      case rel => exact ⟨k + 1, G2, hlt, by go_num, Hput.out, Hgood.out, (fun g hg => by
        rcases hsub g hg with h | h
        · exact hge g h
        · have := l1 g h; have := hB.size; omega), ((hB.seq m1).trans (Hmod.out)).drop (fun g hg => hge g (by simpa using hg))⟩
      case measure => simp [intOf]; omega
    · obtain rfl : k = xs.length := by omega
      rw [List.take_length, List.drop_of_length_le (by simp), List.append_nil] at hs
      go_wp2_with fail
      go_ret
      exact ⟨_, rfl, G, hs, hg, hge, hB⟩



set_option maxHeartbeats 2000000 in
theorem toBlockSS_any (w : World) (F : List Nat) (v : Value) (xs : List (List BlockD)) (hx : SliceHas (rBlock.slice) w F [v] xs) (hn : (szL (szL szBlock)) xs ≤ 1048576) :
    Calls Try.prog 72 #[v] w fun e w' => ∃ v', e = .returned v' ∧ Fresh ((rBlock.slice).slice) w w' [v'] xs := by
  obtain ⟨A, c, rfl, hl, _⟩ := hx.form'
  have hn1 := szL_len (szL szBlock) xs
  have hmk := make_eq (P := Try.prog) 55 56 (.slice none 0 0) 1 24 Try.underlying55 (by kernel_rfl) xs.length (by omega) hl
  go_enter Try.func72, Try.ntmps72
  go_wp2_with fail
  go_loopw [4] (fun i wr => ∃ (k : Nat) (G : List Nat), k ≤ xs.length ∧ i = .int .i64 k ∧ SliceHas (rBlock.slice) wr G [.slice (some ⟨w.heap.size, 0, none⟩) xs.length xs.length] (xs.take k ++ (List.replicate xs.length []).drop k) ∧ Good wr G ∧ (∀ g ∈ G, w.heap.size ≤ g) ∧ Mod [] w wr) (fun i _ => xs.length - (intOf i).toNat)
  case atStart =>
    refine ⟨0, [w.heap.size], Nat.zero_le _, rfl, ?_, (Good.nil w).cons _ _, by simp, Mod.alloc0 _ _⟩
    have h := SliceHas.lit (e := (rBlock.slice)) (t := 56) (n := xs.length) (all_made (e := (rBlock.slice)) (z := #[.slice none 0 0]) (zx := []) rfl (by decide) w (SliceHas.nil w) xs.length) (by simp) (by unfold maxLen; omega)
    simpa only [show (rBlock.slice).size = 1 from rfl, Nat.mul_one, List.take_zero, List.drop_zero, List.nil_append] using h
  case round =>
    obtain ⟨k, G, hk, rfl, hs, hg, hge, hB⟩ := hrel
    by_cases hlt : k < xs.length
    · have hx' : SliceHas (rBlock.slice) wr F [.slice A xs.length c] xs := Rep.slice (rBlock.slice) |>.mod0 hx hB
      have hq := szL_get (szL szBlock) xs k hlt
      obtain ⟨ad, u, Fk, rfl, a0, hxk, _⟩ := hx'.slice_at hlt
      go_wp2_with fail
      refine (toBlockS_any _ _ _ _ hxk (by omega)).mono ?_
      rintro e w1 ⟨cs1, rfl, G1, g1, k1, l1, m1⟩
      have hs1 := Rep.slice (rBlock.slice) |>.mod0 hs m1
      have hg1 := hg.mod0 m1
      obtain ⟨od, G2, hod, hin, hsome, hfr, hput, hgood, hmod, hsub⟩ := SliceHas.put hs1 hg1 hlt g1 k1 (fun g hg' hgG => by have := l1 g hg'; have := hg.lt g hgG; omega)
      obtain ⟨B0, d0, rfl, _⟩ := SliceHas.form' g1
      have hset := list_set_take (xs.take k) (List.replicate xs.length []) k xs[k] (by rw [List.length_take]; omega) (by rw [List.length_replicate]; exact hlt)
      rw [← List.take_succ_eq_append_getElem hlt] at hset
      rw [hset] at hput
      clear hset
      cases hod
      simp only [show (rBlock.slice).size = 1 from rfl, Nat.mul_one, putCells, Addr.add_lit, Nat.zero_add, Nat.add_zero] at hput hgood hmod hfr
      obtain ⟨o0, p0⟩ : ∃ u, w1.cell? ⟨w.heap.size, k, none⟩ = some u := Option.isSome_iff_exists.1 (by have := hsome 0 (by decide); simpa only [show (rBlock.slice).size = 1 from rfl, Nat.mul_one, Addr.add_lit, Nat.zero_add, Nat.add_zero] using this)
      have Hput := Lib.hid hput
      have Hgood := Lib.hid hgood
      have Hmod := Lib.hid hmod
      clear hput hgood hmod hs hs1
      go_wp2_with fail
      go_roundw
      case rel => exact ⟨k + 1, G2, hlt, by go_num, Hput.out, Hgood.out, (fun g hg => by
        rcases hsub g hg with h | h
        · exact hge g h
        · have := l1 g h; have := hB.size; omega), ((hB.seq m1).trans (Hmod.out)).drop (fun g hg => hge g (by simpa using hg))⟩
      case measure => simp [intOf]; omega
    · obtain rfl : k = xs.length := by omega
      rw [List.take_length, List.drop_of_length_le (by simp), List.append_nil] at hs
      go_wp2_with fail
      go_ret
      exact ⟨_, rfl, G, hs, hg, hge, hB⟩



end Go.Proofs.Ythabgnhedmepjaa
