/- Contracts of to.. for structs with slices. -/
import Derived.Test.YteafnieapifnnaaDoorToA
import Derived.Test.YteafnieapifnnaaDoorSatT
import Derived.Test.YteafnieapifnnaaDoorFind
import Derived.Test.YteafnieapifnnaaDoorTys
section
namespace Go.Proofs.YteafnieapifnnaaDoor
open Go.RowKit
attribute [local go_sem] ext_cell


set_option maxHeartbeats 2000000 in
theorem toShape_any (w : World) (F : List Nat) (cs : List Value) (x : ShapeD) (hx : rShape.has w F cs x) (hn : szShape x ≤ 1048576) :
    Calls Tryd.prog 52 #[.agg cs.toArray] w fun e w' => ∃ cs', e = .returned (.agg cs'.toArray) ∧ Fresh rShape w w' cs' x := by
  obtain ⟨A1, c1, F1, rfl, _, ih0, h1, ih2⟩ := rShape_open hx
  obtain ⟨x0, x1, x2⟩ := x
  simp only [szShape] at hn
  go_enter Tryd.func52, Tryd.ntmps52
  go_wp2_with fail
  refine (toStringS_any _ _ _ _ (Rep.mod0 (Rep.str.slice) h1 (by repeat (first | exact Mod.refl _ _ | apply Mod.alloc | apply Mod.drewN | refine Mod.seq ?_ (by assumption)))) (by omega)).mono ?_
  rintro e w1 ⟨v1, rfl, G1, g1, n1, l1, m1⟩
  obtain ⟨hc1, hf1⟩ := m1.rules
  have z1 := m1.size
  simp only [World.size_alloc, World.size_setCell] at z1 l1
  have y1 : w.heap.size + 1 < w1.heap.size := by omega
  have y1b : w.heap.size + 1 + 1 < w1.heap.size := by omega
  obtain ⟨B1, d1, rfl, _⟩ := SliceHas.form' g1
  go_wp2_with fail
  refine bodyPost_ret (v := .agg #[.string x0, .slice B1 x1.length d1, .int .i64 x2]) (by simp [results, Tryd.results52, go_sem, hc1, y1]) rfl ⟨_, rfl, ?_⟩
  exact Fresh.shut (n := w.heap.size + 3) (B := [w.heap.size + 1, w.heap.size + 1 + 1]) (rShape_mk ih0 g1 ih2) n1 (fun g hg => by have := l1 g hg; omega) (by omega) (by simp <;> omega) (by repeat (first | exact Mod.refl _ _ | refine Mod.setCell ?_ (by simp) _)) (by repeat (first | exact Mod.refl _ _ | refine Mod.setCell ?_ (by simp) _ | apply Mod.alloc | apply Mod.drewN | refine Mod.seq' ?_ (by assumption)))


set_option maxHeartbeats 2000000 in
theorem toTable_any (w : World) (F : List Nat) (cs : List Value) (x : TableD) (hx : rTable.has w F cs x) (hn : szTable x ≤ 1048576) :
    Calls Tryd.prog 28 #[.agg cs.toArray] w fun e w' => ∃ cs', e = .returned (.agg cs'.toArray) ∧ Fresh rTable w w' cs' x := by
  obtain ⟨A0, c0, F0, A1, c1, F1, rfl, _, h0, h1⟩ := rTable_open hx
  obtain ⟨x0, x1⟩ := x
  simp only [szTable] at hn
  go_enter Tryd.func28, Tryd.ntmps28
  go_wp2_with fail
  refine (toStringS_any _ _ _ _ (Rep.mod0 (Rep.str.slice) h0 (by repeat (first | exact Mod.refl _ _ | apply Mod.alloc | apply Mod.drewN | refine Mod.seq ?_ (by assumption)))) (by omega)).mono ?_
  rintro e w0 ⟨v0, rfl, G0, g0, n0, l0, m0⟩
  obtain ⟨hc0, hf0⟩ := m0.rules
  have z0 := m0.size
  simp only [World.size_alloc, World.size_setCell] at z0 l0
  have y0 : w.heap.size + 1 < w0.heap.size := by omega
  have y0b : w.heap.size + 1 + 1 < w0.heap.size := by omega
  obtain ⟨B0, d0, rfl, _⟩ := SliceHas.form' g0
  go_wp2_with fail
  refine (toIntSS_any _ _ _ _ (Rep.mod (G := [w.heap.size + 1 + 1]) ((Rep.int.slice).slice) h1 (by repeat (first | exact Mod.refl _ _ | refine Mod.setCell ?_ (by simp) _ | apply Mod.alloc | apply Mod.drewN | refine Mod.seq' ?_ (by assumption))) (by intro g hg; have := Rep.lt ((Rep.int.slice).slice) h1 g hg; simp; omega)) (by omega)).mono ?_
  rintro e w1 ⟨v1, rfl, G1, g1, n1, l1, m1⟩
  obtain ⟨hc1, hf1⟩ := m1.rules
  have z1 := m1.size
  simp only [World.size_alloc, World.size_setCell] at z1 l1
  have y1 : w.heap.size + 1 < w1.heap.size := by omega
  have y1b : w.heap.size + 1 + 1 < w1.heap.size := by omega
  have q1 : Mod [w.heap.size + 1 + 1] w0 w1 := Mod.seq' (F := [w.heap.size + 1 + 1]) (by repeat (first | exact Mod.refl _ _ | refine Mod.setCell ?_ (by simp) _)) m1
  have o0x1 := n0.lt
  replace g0 := Rep.mod (Rep.str.slice) g0 q1 (fun g hg => by have := l0 g hg; simp; omega)
  replace n0 := n0.mod q1 (fun g hg => by have := l0 g hg; simp; omega)
  obtain ⟨B1, d1, rfl, _⟩ := SliceHas.form' g1
  go_wp2_with fail
  refine bodyPost_ret (v := .agg #[.slice B0 x0.length d0, .slice B1 x1.length d1]) (by simp [results, Tryd.results28, go_sem, hc0, y0, hc1, y1]) rfl ⟨_, rfl, ?_⟩
  exact Fresh.shut (n := w.heap.size + 3) (B := [w.heap.size + 1, w.heap.size + 1 + 1]) (rTable_mk g0 g1) (Good.append n0 n1 (fun g hg hg' => absurd (o0x1 g hg) (by have := l1 g hg'; omega))) (fun g hg => by simp only [List.mem_append] at hg; rcases hg with hg | hg <;> first | (have := l0 g hg; omega) | (have := l1 g hg; omega)) (by omega) (by simp <;> omega) (by repeat (first | exact Mod.refl _ _ | refine Mod.setCell ?_ (by simp) _)) (by repeat (first | exact Mod.refl _ _ | refine Mod.setCell ?_ (by simp) _ | apply Mod.alloc | apply Mod.drewN | refine Mod.seq' ?_ (by assumption)))





set_option maxHeartbeats 2000000 in
theorem toShapeS_any (w : World) (F : List Nat) (v : Value) (xs : List ShapeD) (hx : SliceHas rShape w F [v] xs) (hn : (szL szShape) xs ≤ 1048576) :
    Calls Tryd.prog 23 #[v] w fun e w' => ∃ v', e = .returned v' ∧ Fresh (rShape.slice) w w' [v'] xs := by
  obtain ⟨A, c, rfl, hl, _⟩ := hx.form'
  have hn1 := szL_len szShape xs
  have hmk := make_eq (P := Tryd.prog) 25 29 (.agg #[.string ByteArray.empty, .slice none 0 0, .int .i64 0]) 3 48 Tryd.underlying25 (by kernel_rfl) xs.length (by omega) hl
  go_enter Tryd.func23, Tryd.ntmps23
  go_wp2_with fail
  go_loopw [4] (fun i wr => ∃ (k : Nat) (G : List Nat), k ≤ xs.length ∧ i = .int .i64 k ∧ SliceHas rShape wr G [.slice (some ⟨w.heap.size, 0, none⟩) xs.length xs.length] (xs.take k ++ (List.replicate xs.length (ByteArray.empty, [], 0)).drop k) ∧ Good wr G ∧ (∀ g ∈ G, w.heap.size ≤ g) ∧ Mod [] w wr) (fun i _ => xs.length - (intOf i).toNat)
  case atStart =>
    refine ⟨0, [w.heap.size], Nat.zero_le _, rfl, ?_, (Good.nil w).cons _ _, by simp, Mod.alloc0 _ _⟩
    have h := SliceHas.lit (e := rShape) (t := 29) (n := xs.length) (all_made (e := rShape) (z := #[.string ByteArray.empty, .slice none 0 0, .int .i64 0]) (zx := (ByteArray.empty, [], 0)) rfl (by decide) w (rShape_mk (show ByteArray.empty.size ≤ maxLen by decide) (SliceHas.nil w) i64_zero) xs.length) (by simp) (by unfold maxLen; omega)
    simpa only [show rShape.size = 3 from rfl, Nat.mul_one, List.take_zero, List.drop_zero, List.nil_append] using h
  case round =>
    obtain ⟨k, G, hk, rfl, hs, hg, hge, hB⟩ := hrel
    by_cases hlt : k < xs.length
    · have hx' : SliceHas rShape wr F [.slice A xs.length c] xs := Rep.slice rShape |>.mod0 hx hB
      have hq := szL_get szShape xs k hlt
      obtain ⟨ad, Fk, ck, rfl, _, _, _, hca, hxk⟩ := hx'.get hlt
      have hxk2 := hxk
      obtain ⟨A1, c1, F1, rfl, _, _, _, _⟩ := rShape_open hxk
      have a0 : wr.cell? (ad.add (k * 3)) = some (.string xs[k].1) := hca.zero
      have a1 : wr.cell? ⟨(ad.add (k * 3)).block, (ad.add (k * 3)).off + 1, none⟩ = some (.slice A1 xs[k].2.1.length c1) := hca.nth 0 rfl
      have a2 : wr.cell? ⟨(ad.add (k * 3)).block, (ad.add (k * 3)).off + 2, none⟩ = some (.int .i64 xs[k].2.2) := hca.nth 1 rfl
      clear hca
      go_wp2_with fail
      refine (toShape_any _ _ _ _ hxk2 (by omega)).mono ?_
      rintro e w1 ⟨cs1, rfl, G1, g1, k1, l1, m1⟩
      have hs1 := Rep.slice rShape |>.mod0 hs m1
      have hg1 := hg.mod0 m1
      obtain ⟨od, G2, hod, hin, hsome, hfr, hput, hgood, hmod, hsub⟩ := SliceHas.put hs1 hg1 hlt g1 k1 (fun g hg' hgG => by have := l1 g hg'; have := hg.lt g hgG; omega)
      obtain ⟨B1, d1, H1, rfl, _, ij0, j1, ij2⟩ := rShape_open g1
      have hset := list_set_take (xs.take k) (List.replicate xs.length (ByteArray.empty, [], 0)) k xs[k] (by rw [List.length_take]; omega) (by rw [List.length_replicate]; exact hlt)
      rw [← List.take_succ_eq_append_getElem hlt] at hset
      rw [hset] at hput
      clear hset
      cases hod
      simp only [show rShape.size = 3 from rfl, Nat.mul_one, putCells, Addr.add_lit, Nat.zero_add, Nat.add_zero] at hput hgood hmod hfr
      obtain ⟨o0, p0⟩ : ∃ u, w1.cell? ⟨w.heap.size, k * 3, none⟩ = some u := Option.isSome_iff_exists.1 (by have := hsome 0 (by decide); simpa only [show rShape.size = 3 from rfl, Nat.mul_one, Addr.add_lit, Nat.zero_add, Nat.add_zero] using this)
      obtain ⟨o1, p1⟩ : ∃ u, w1.cell? ⟨w.heap.size, k * 3 + 1, none⟩ = some u := Option.isSome_iff_exists.1 (by have := hsome 1 (by decide); simpa only [show rShape.size = 3 from rfl, Nat.mul_one, Addr.add_lit, Nat.zero_add, Nat.add_zero] using this)
      obtain ⟨o2, p2⟩ : ∃ u, w1.cell? ⟨w.heap.size, k * 3 + 2, none⟩ = some u := Option.isSome_iff_exists.1 (by have := hsome 2 (by decide); simpa only [show rShape.size = 3 from rfl, Nat.mul_one, Addr.add_lit, Nat.zero_add, Nat.add_zero] using this)
      have Hput := Lib.hid hput
      have Hgood := Lib.hid hgood
      have Hmod := Lib.hid hmod
      clear hput hgood hmod hs hs1
      go_wp2_with fail
      go_roundw
      case rel => exact ⟨k + 1, G2, hlt, by go_num, Hput.out, Hgood.out, (fun g hg => by
        rcases hsub g hg with h | h
        · exact hge g h
        · have := l1 g h; have := hB.size; omega), ((hB.seq m1).trans (Hmod.out)).drop (fun g hg => hge g (by simpa using hg))⟩
      case measure => simp [intOf]; omega
    · obtain rfl : k = xs.length := by omega
      rw [List.take_length, List.drop_of_length_le (by simp), List.append_nil] at hs
      go_wp2_with fail
      go_ret
      exact ⟨_, rfl, G, hs, hg, hge, hB⟩




end Go.Proofs.YteafnieapifnnaaDoor
end

section
namespace Go.Proofs.YteafnieapifnnaaDoor
open Go.RowKit















end Go.Proofs.YteafnieapifnnaaDoor
end
