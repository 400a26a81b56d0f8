/- Contracts of to.. for slices of plain values and for structs of plain values. -/
import Derived.Test.YteafnieapifnnaaDoorMkDefs
import Derived.Test.YteafnieapifnnaaDoorEqA
namespace Go.Proofs.YteafnieapifnnaaDoor
open Go.RowKit
attribute [local go_sem] ext_cell

set_option maxHeartbeats 2000000 in
theorem toIntS_any (w : World) (F : List Nat) (v : Value) (xs : List Int) (hx : SliceHas Rep.int w F [v] xs) (hn : (szL szZ) xs ≤ 1048576) :
    Calls Tryd.prog 18 #[v] w fun e w' => ∃ v', e = .returned v' ∧ Fresh (Rep.int.slice) w w' [v'] xs := by
  obtain ⟨A, c, rfl, hl, _⟩ := hx.form'
  have hn1 := szL_len szZ xs
  have hmk := make_eq (P := Tryd.prog) 41 3 (.int .i64 0) 1 8 Tryd.underlying41 (by kernel_rfl) xs.length (by omega) hl
  go_enter Tryd.func18, Tryd.ntmps18
  go_wp2_with fail
  go_loopw [4] (fun i wr => ∃ (k : Nat) (G : List Nat), k ≤ xs.length ∧ i = .int .i64 k ∧ SliceHas Rep.int wr G [.slice (some ⟨w.heap.size, 0, none⟩) xs.length xs.length] (xs.take k ++ (List.replicate xs.length 0).drop k) ∧ Good wr G ∧ (∀ g ∈ G, w.heap.size ≤ g) ∧ Mod [] w wr) (fun i _ => xs.length - (intOf i).toNat)
  case atStart =>
    refine ⟨0, [w.heap.size], Nat.zero_le _, rfl, ?_, (Good.nil w).cons _ _, by simp, Mod.alloc0 _ _⟩
    have h := SliceHas.lit (e := Rep.int) (t := 3) (n := xs.length) (all_made (e := Rep.int) (z := #[.int .i64 0]) (zx := 0) rfl (by decide) w ⟨rfl, rfl, i64_zero⟩ xs.length) (by simp) (by unfold maxLen; omega)
    simpa only [show Rep.int.size = 1 from rfl, Nat.mul_one, List.take_zero, List.drop_zero, List.nil_append] using h
  case round =>
    obtain ⟨k, G, hk, rfl, hs, hg, hge, hB⟩ := hrel
    by_cases hlt : k < xs.length
    · have hx' : SliceHas Rep.int wr F [.slice A xs.length c] xs := Rep.slice Rep.int |>.mod0 hx hB
      have hq := szL_get szZ xs k hlt
      obtain ⟨ad, rfl, a0, hi⟩ := hx'.int_at hlt
      obtain ⟨od, G2, hod, hin, hsome, hfr, hput, hgood, hmod, hsub⟩ := SliceHas.put hs hg hlt (show Rep.int.has wr [] [.int .i64 xs[k]] xs[k] from ⟨rfl, rfl, hi⟩) (Good.nil _) (by simp)
      have hset := list_set_take (xs.take k) (List.replicate xs.length 0) k xs[k] (by rw [List.length_take]; omega) (by rw [List.length_replicate]; exact hlt)
      rw [← List.take_succ_eq_append_getElem hlt] at hset
      rw [hset] at hput
      clear hset
      cases hod
      simp only [show Rep.int.size = 1 from rfl, Nat.mul_one, putCells, Addr.add_lit, Nat.zero_add, Nat.add_zero] at hput hgood hmod hfr
      obtain ⟨o0, p0⟩ : ∃ u, wr.cell? ⟨w.heap.size, k, none⟩ = some u := Option.isSome_iff_exists.1 (by have := hsome 0 (by decide); simpa only [show Rep.int.size = 1 from rfl, Nat.mul_one, Addr.add_lit, Nat.zero_add, Nat.add_zero] using this)
      have Hput := Lib.hid hput
      have Hgood := Lib.hid hgood
      have Hmod := Lib.hid hmod
      clear hput hgood hmod hs
      go_wp2_with fail
      go_roundw
      case rel => exact ⟨k + 1, G2, hlt, by go_num, Hput.out, Hgood.out, (fun g hg => by rcases hsub g hg with h | h <;> first | exact hge g h | cases h), (hB.trans (Hmod.out)).drop (fun g hg => hge g (by simpa using hg))⟩
      case measure => simp [intOf]; omega
    · obtain rfl : k = xs.length := by omega
      rw [List.take_length, List.drop_of_length_le (by simp), List.append_nil] at hs
      go_wp2_with fail
      go_ret
      exact ⟨_, rfl, G, hs, hg, hge, hB⟩

set_option maxHeartbeats 2000000 in
theorem toStringS_any (w : World) (F : List Nat) (v : Value) (xs : List ByteArray) (hx : SliceHas Rep.str w F [v] xs) (hn : (szL szStr) xs ≤ 1048576) :
    Calls Tryd.prog 58 #[v] w fun e w' => ∃ v', e = .returned v' ∧ Fresh (Rep.str.slice) w w' [v'] xs := by
  obtain ⟨A, c, rfl, hl, _⟩ := hx.form'
  have hn1 := szL_len szStr xs
  have hmk := make_eq (P := Tryd.prog) 27 9 (.string ByteArray.empty) 1 16 Tryd.underlying27 (by kernel_rfl) xs.length (by omega) hl
  go_enter Tryd.func58, Tryd.ntmps58
  go_wp2_with fail
  go_loopw [4] (fun i wr => ∃ (k : Nat) (G : List Nat), k ≤ xs.length ∧ i = .int .i64 k ∧ SliceHas Rep.str wr G [.slice (some ⟨w.heap.size, 0, none⟩) xs.length xs.length] (xs.take k ++ (List.replicate xs.length ByteArray.empty).drop k) ∧ Good wr G ∧ (∀ g ∈ G, w.heap.size ≤ g) ∧ Mod [] w wr) (fun i _ => xs.length - (intOf i).toNat)
  case atStart =>
    refine ⟨0, [w.heap.size], Nat.zero_le _, rfl, ?_, (Good.nil w).cons _ _, by simp, Mod.alloc0 _ _⟩
    have h := SliceHas.lit (e := Rep.str) (t := 9) (n := xs.length) (all_made (e := Rep.str) (z := #[.string ByteArray.empty]) (zx := ByteArray.empty) rfl (by decide) w ⟨rfl, rfl, by decide⟩ xs.length) (by simp) (by unfold maxLen; omega)
    simpa only [show Rep.str.size = 1 from rfl, Nat.mul_one, List.take_zero, List.drop_zero, List.nil_append] using h
  case round =>
    obtain ⟨k, G, hk, rfl, hs, hg, hge, hB⟩ := hrel
    by_cases hlt : k < xs.length
    · have hx' : SliceHas Rep.str wr F [.slice A xs.length c] xs := Rep.slice Rep.str |>.mod0 hx hB
      have hq := szL_get szStr xs k hlt
      obtain ⟨ad, rfl, a0, hi⟩ := hx'.str_at hlt
      obtain ⟨od, G2, hod, hin, hsome, hfr, hput, hgood, hmod, hsub⟩ := SliceHas.put hs hg hlt (show Rep.str.has wr [] [.string xs[k]] xs[k] from ⟨rfl, rfl, hi⟩) (Good.nil _) (by simp)
      have hset := list_set_take (xs.take k) (List.replicate xs.length ByteArray.empty) k xs[k] (by rw [List.length_take]; omega) (by rw [List.length_replicate]; exact hlt)
      rw [← List.take_succ_eq_append_getElem hlt] at hset
      rw [hset] at hput
      clear hset
      cases hod
      simp only [show Rep.str.size = 1 from rfl, Nat.mul_one, putCells, Addr.add_lit, Nat.zero_add, Nat.add_zero] at hput hgood hmod hfr
      obtain ⟨o0, p0⟩ : ∃ u, wr.cell? ⟨w.heap.size, k, none⟩ = some u := Option.isSome_iff_exists.1 (by have := hsome 0 (by decide); simpa only [show Rep.str.size = 1 from rfl, Nat.mul_one, Addr.add_lit, Nat.zero_add, Nat.add_zero] using this)
      have Hput := Lib.hid hput
      have Hgood := Lib.hid hgood
      have Hmod := Lib.hid hmod
      clear hput hgood hmod hs
      go_wp2_with fail
      go_roundw
      case rel => exact ⟨k + 1, G2, hlt, by go_num, Hput.out, Hgood.out, (fun g hg => by rcases hsub g hg with h | h <;> first | exact hge g h | cases h), (hB.trans (Hmod.out)).drop (fun g hg => hge g (by simpa using hg))⟩
      case measure => simp [intOf]; omega
    · obtain rfl : k = xs.length := by omega
      rw [List.take_length, List.drop_of_length_le (by simp), List.append_nil] at hs
      go_wp2_with fail
      go_ret
      exact ⟨_, rfl, G, hs, hg, hge, hB⟩


set_option maxHeartbeats 2000000 in
theorem toIntSS_any (w : World) (F : List Nat) (v : Value) (xs : List (List Int)) (hx : SliceHas (Rep.int.slice) w F [v] xs) (hn : (szL (szL szZ)) xs ≤ 1048576) :
    Calls Tryd.prog 59 #[v] w fun e w' => ∃ v', e = .returned v' ∧ Fresh ((Rep.int.slice).slice) w w' [v'] xs := by
  obtain ⟨A, c, rfl, hl, _⟩ := hx.form'
  have hn1 := szL_len (szL szZ) xs
  have hmk := make_eq (P := Tryd.prog) 31 41 (.slice none 0 0) 1 24 Tryd.underlying31 (by kernel_rfl) xs.length (by omega) hl
  go_enter Tryd.func59, Tryd.ntmps59
  go_wp2_with fail
  go_loopw [4] (fun i wr => ∃ (k : Nat) (G : List Nat), k ≤ xs.length ∧ i = .int .i64 k ∧ SliceHas (Rep.int.slice) wr G [.slice (some ⟨w.heap.size, 0, none⟩) xs.length xs.length] (xs.take k ++ (List.replicate xs.length []).drop k) ∧ Good wr G ∧ (∀ g ∈ G, w.heap.size ≤ g) ∧ Mod [] w wr) (fun i _ => xs.length - (intOf i).toNat)
  case atStart =>
    refine ⟨0, [w.heap.size], Nat.zero_le _, rfl, ?_, (Good.nil w).cons _ _, by simp, Mod.alloc0 _ _⟩
    have h := SliceHas.lit (e := (Rep.int.slice)) (t := 41) (n := xs.length) (all_made (e := (Rep.int.slice)) (z := #[.slice none 0 0]) (zx := []) rfl (by decide) w (SliceHas.nil w) xs.length) (by simp) (by unfold maxLen; omega)
    simpa only [show (Rep.int.slice).size = 1 from rfl, Nat.mul_one, List.take_zero, List.drop_zero, List.nil_append] using h
  case round =>
    obtain ⟨k, G, hk, rfl, hs, hg, hge, hB⟩ := hrel
    by_cases hlt : k < xs.length
    · have hx' : SliceHas (Rep.int.slice) wr F [.slice A xs.length c] xs := Rep.slice (Rep.int.slice) |>.mod0 hx hB
      have hq := szL_get (szL szZ) xs k hlt
      obtain ⟨ad, u, Fk, rfl, a0, hxk, _⟩ := hx'.slice_at hlt
      go_wp2_with fail
      refine (toIntS_any _ _ _ _ hxk (by omega)).mono ?_
      rintro e w1 ⟨cs1, rfl, G1, g1, k1, l1, m1⟩
      have hs1 := Rep.slice (Rep.int.slice) |>.mod0 hs m1
      have hg1 := hg.mod0 m1
      obtain ⟨od, G2, hod, hin, hsome, hfr, hput, hgood, hmod, hsub⟩ := SliceHas.put hs1 hg1 hlt g1 k1 (fun g hg' hgG => by have := l1 g hg'; have := hg.lt g hgG; omega)
      obtain ⟨B0, d0, rfl, _⟩ := SliceHas.form' g1
      have hset := list_set_take (xs.take k) (List.replicate xs.length []) k xs[k] (by rw [List.length_take]; omega) (by rw [List.length_replicate]; exact hlt)
      rw [← List.take_succ_eq_append_getElem hlt] at hset
      rw [hset] at hput
      clear hset
      cases hod
      simp only [show (Rep.int.slice).size = 1 from rfl, Nat.mul_one, putCells, Addr.add_lit, Nat.zero_add, Nat.add_zero] at hput hgood hmod hfr
      obtain ⟨o0, p0⟩ : ∃ u, w1.cell? ⟨w.heap.size, k, none⟩ = some u := Option.isSome_iff_exists.1 (by have := hsome 0 (by decide); simpa only [show (Rep.int.slice).size = 1 from rfl, Nat.mul_one, Addr.add_lit, Nat.zero_add, Nat.add_zero] using this)
      have Hput := Lib.hid hput
      have Hgood := Lib.hid hgood
      have Hmod := Lib.hid hmod
      clear hput hgood hmod hs hs1
      go_wp2_with fail
      go_roundw
      case rel => exact ⟨k + 1, G2, hlt, by go_num, Hput.out, Hgood.out, (fun g hg => by
        rcases hsub g hg with h | h
        · exact hge g h
        · have := l1 g h; have := hB.size; omega), ((hB.seq m1).trans (Hmod.out)).drop (fun g hg => hge g (by simpa using hg))⟩
      case measure => simp [intOf]; omega
    · obtain rfl : k = xs.length := by omega
      rw [List.take_length, List.drop_of_length_le (by simp), List.append_nil] at hs
      go_wp2_with fail
      go_ret
      exact ⟨_, rfl, G, hs, hg, hge, hB⟩














end Go.Proofs.YteafnieapifnnaaDoor
