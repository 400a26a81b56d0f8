/- Contract of impl's SealRow. -/
import Derived.Test.YtldknaajnnohiaaDoorSealD
namespace Go.Proofs.YtldknaajnnohiaaDoor
open Go.RowKit

set_option maxHeartbeats 4000000 in
theorem impl_SealRow (key number : Int) (real : Bool) (w : World) (F : List Nat) (v : Value) (row : List Int) (hx : SliceHas Rep.int w F [v] row) :
    Calls Tryd.prog 145 #[.int .i64 key, .int .i64 number, v, .bool real] w fun e w' => ∃ cs', e = .returned (.agg cs'.toArray) ∧ Fresh rSealed w w' cs' (sealRowF key number row real) := by
  obtain ⟨A, c, rfl, hl, _⟩ := hx.form'
  cases hk : inB key 0 1000000
  · have Hp := Lib.hid (notOk_key (number := number) (row := row) (real := real) hk)
    go_enter Tryd.func145, Tryd.ntmps145
    go_wp2_with (first | (go_at_call 143; refine (impl_isKey _ _).mono ?_; rintro e w' ⟨rfl, rfl⟩) | (go_at_call 80; refine (impl_isNumber _ _).mono ?_; rintro e w' ⟨rfl, rfl⟩) | (go_at_call 95; refine (impl_in _ _ _ _).mono ?_; rintro e w' ⟨rfl, rfl⟩) | (go_at_call 78; refine (cf_SealRow_1 _ F _ row (Rep.slice Rep.int |>.mod0 hx (Mod.alloc0 _ _))).mono ?_; rintro e w1 ⟨rfl, hm1⟩; have hr1 := hm1.rules; obtain ⟨hc1, hf1⟩ := hr1))
    refine bodyPost_ret (v := .agg #[.int .i64 0, .slice none 0 0, .int .i64 0]) (by simp [results, Tryd.results145, go_sem]) rfl ⟨_, rfl, ?_⟩
    rw [Hp.out]
    exact Fresh.zeroSealed _ _ (by repeat' (first | assumption | exact Mod.refl _ _ | exact Mod.alloc0 _ _ | (refine Mod.setCell ?_ (by (try simp); (try omega)) _) | refine Mod.alloc ?_ _ | refine Mod.drew ?_))
  cases hn : inB number 0 1000000000
  · have Hp := Lib.hid (notOk_num (key := key) (row := row) (real := real) hn)
    go_enter Tryd.func145, Tryd.ntmps145
    go_wp2_with (first | (go_at_call 143; refine (impl_isKey _ _).mono ?_; rintro e w' ⟨rfl, rfl⟩) | (go_at_call 80; refine (impl_isNumber _ _).mono ?_; rintro e w' ⟨rfl, rfl⟩) | (go_at_call 95; refine (impl_in _ _ _ _).mono ?_; rintro e w' ⟨rfl, rfl⟩) | (go_at_call 78; refine (cf_SealRow_1 _ F _ row (Rep.slice Rep.int |>.mod0 hx (Mod.alloc0 _ _))).mono ?_; rintro e w1 ⟨rfl, hm1⟩; have hr1 := hm1.rules; obtain ⟨hc1, hf1⟩ := hr1))
    refine bodyPost_ret (v := .agg #[.int .i64 0, .slice none 0 0, .int .i64 0]) (by simp [results, Tryd.results145, go_sem]) rfl ⟨_, rfl, ?_⟩
    rw [Hp.out]
    exact Fresh.zeroSealed _ _ (by repeat' (first | assumption | exact Mod.refl _ _ | exact Mod.alloc0 _ _ | (refine Mod.setCell ?_ (by (try simp); (try omega)) _) | refine Mod.alloc ?_ _ | refine Mod.drew ?_))
  cases hlen : inB row.length 1 6
  · have Hp := Lib.hid (notOk_len (key := key) (number := number) (real := real) hlen)
    go_enter Tryd.func145, Tryd.ntmps145
    go_wp2_with (first | (go_at_call 143; refine (impl_isKey _ _).mono ?_; rintro e w' ⟨rfl, rfl⟩) | (go_at_call 80; refine (impl_isNumber _ _).mono ?_; rintro e w' ⟨rfl, rfl⟩) | (go_at_call 95; refine (impl_in _ _ _ _).mono ?_; rintro e w' ⟨rfl, rfl⟩) | (go_at_call 78; refine (cf_SealRow_1 _ F _ row (Rep.slice Rep.int |>.mod0 hx (Mod.alloc0 _ _))).mono ?_; rintro e w1 ⟨rfl, hm1⟩; have hr1 := hm1.rules; obtain ⟨hc1, hf1⟩ := hr1))
    refine bodyPost_ret (v := .agg #[.int .i64 0, .slice none 0 0, .int .i64 0]) (by simp [results, Tryd.results145, go_sem]) rfl ⟨_, rfl, ?_⟩
    rw [Hp.out]
    exact Fresh.zeroSealed _ _ (by repeat' (first | assumption | exact Mod.refl _ _ | exact Mod.alloc0 _ _ | (refine Mod.setCell ?_ (by (try simp); (try omega)) _) | refine Mod.alloc ?_ _ | refine Mod.drew ?_))
  cases hany : row.any notValue
  rotate_left
  · have Hp := Lib.hid (notOk_any (key := key) (number := number) (real := real) hany)
    go_enter Tryd.func145, Tryd.ntmps145
    go_wp2_with (first | (go_at_call 143; refine (impl_isKey _ _).mono ?_; rintro e w' ⟨rfl, rfl⟩) | (go_at_call 80; refine (impl_isNumber _ _).mono ?_; rintro e w' ⟨rfl, rfl⟩) | (go_at_call 95; refine (impl_in _ _ _ _).mono ?_; rintro e w' ⟨rfl, rfl⟩) | (go_at_call 78; refine (cf_SealRow_1 _ F _ row (Rep.slice Rep.int |>.mod0 hx (Mod.alloc0 _ _))).mono ?_; rintro e w1 ⟨rfl, hm1⟩; have hr1 := hm1.rules; obtain ⟨hc1, hf1⟩ := hr1))
    refine bodyPost_ret (v := .agg #[.int .i64 0, .slice none 0 0, .int .i64 0]) (by simp [results, Tryd.results145, go_sem, hc1]) rfl ⟨_, rfl, ?_⟩
    rw [Hp.out]
    exact Fresh.zeroSealed _ _ (by have hq := (Mod.alloc0 _ _).seq hm1; repeat' (first | assumption | exact Mod.refl _ _ | exact Mod.alloc0 _ _ | (refine Mod.setCell ?_ (by (try simp); (try omega)) _) | refine Mod.alloc ?_ _ | refine Mod.drew ?_))
  have Hp := Lib.hid (allOk (real := real) hk hn hlen hany)
  have Hv : Hid (∀ (k : Nat) (hk : k < row.length), -100000 ≤ row[k] ∧ row[k] ≤ 100000) := fun k hk => value_of hany hk
  obtain ⟨k0, k1⟩ := inB_of hk
  obtain ⟨n0, n1⟩ := inB_of hn
  obtain ⟨l0, l1⟩ := inB_of hlen
  go_enter Tryd.func145, Tryd.ntmps145
  go_wp2_with (first | (go_at_call 143; refine (impl_isKey _ _).mono ?_; rintro e w' ⟨rfl, rfl⟩) | (go_at_call 80; refine (impl_isNumber _ _).mono ?_; rintro e w' ⟨rfl, rfl⟩) | (go_at_call 95; refine (impl_in _ _ _ _).mono ?_; rintro e w' ⟨rfl, rfl⟩) | (go_at_call 78; refine (cf_SealRow_1 _ F _ row (Rep.slice Rep.int |>.mod0 hx (Mod.alloc0 _ _))).mono ?_; rintro e w1 ⟨rfl, hm1⟩; have hr1 := hm1.rules; obtain ⟨hc1, hf1⟩ := hr1))
  have hs1 := hm1.size
  have hsz : w.heap.size + 1 ≤ w1.heap.size := by simpa using hs1
  clear hs1
  go_loopw [38] (fun i wr => ∃ k : Nat, k ≤ row.length ∧ i = .int .i64 k ∧ ∃ cv, wr.cell? ⟨w1.heap.size, 0, none⟩ = some (.int .i64 number) ∧ wr.cell? ⟨w1.heap.size, 1, none⟩ = some cv ∧ wr.cell? ⟨w1.heap.size, 2, none⟩ = some (.int .i64 0) ∧
    (∀ o, wr.frozen? ⟨w1.heap.size, o, none⟩ = false) ∧ Bld Rep.int 3 (w1.heap.size + 1) wr cv (cellsTo key number row k) [] ∧ w1.heap.size + 1 ≤ wr.heap.size ∧ Mod [] w1 wr) (fun i _ => row.length - (intOf i).toNat)
  case atStart => exact ⟨0, Nat.zero_le _, rfl, _, new_cell rfl, new_cell rfl, new_cell rfl, new_frozen, Bld.nil _, by simp, Mod.alloc0 _ _⟩
  case round =>
    obtain ⟨k, hk', rfl, cv, q0, q1, q2, qf, hb, hB0, hB⟩ := hrel
    by_cases hlt : k < row.length
    · have hx' : SliceHas Rep.int wr F [.slice A row.length c] row := Rep.slice Rep.int |>.mod0 hx (((Mod.alloc0 _ _).seq hm1).seq hB)
      obtain ⟨ad, rfl, h0, hi⟩ := hx'.int_at hlt
      obtain ⟨v0, v1⟩ := Hv.out k hlt
      obtain ⟨b0, b1⟩ := streamF_bd key number k
      have H := Lib.hid (show sealCell key number row k = (row[k] + 100000 + streamF key number k) % 200003 by simp [sealCell, List.getD_eq_getElem?_getD, hlt])
      have Hi : Hid (I64 (sealCell key number row k)) := by rw [H.out]; exact I64.mk (by omega) (by omega)
      have Hq := Lib.hid (wrapMod v0 v1 b0 b1 H.out)
      have nn : ¬ (w1.heap.size = wr.heap.size) := by omega
      have nn' : ¬ (wr.heap.size = w1.heap.size) := by omega
      have nl : w1.heap.size < wr.heap.size := by omega
      have a0 : (0 : Int) ≤ (k : Int) := by omega
      have a1 : (k : Int) ≤ 99 := by omega
      go_wp2_with fail
      go_region_law (first | (go_simp; go_at_call 144; refine (impl_stream _ _ _ _ k0 k1 n0 n1 a0 a1).mono ?_; rintro e w' ⟨rfl, rfl⟩) | (show (if Region.wanted { dst := _, op := Op.call { callee := Callee.builtin Builtin.append, args := _, argTypes := _ }, type := _, pos := _, after := _, guard := none } _ = true then _ else _); refine step_app _ (by rfl) (.tmp 44) (.tmp 53) _ (by rfl) (w1.heap.size + 1) _ Rep.int (.int .i64 0) 8 Tryd.underlying43 (by kernel_rfl) (by rfl) (by decide) cv (cellsTo key number row k) [] (by rfl) (hb.mod0 (by repeat' (first | assumption | exact Mod.refl _ _ | exact Mod.alloc0 _ _ | (refine Mod.setCell ?_ (by (try simp); (try omega)) _) | refine Mod.alloc ?_ _ | refine Mod.drew ?_))) _ 1 1 [sealCell key number row k] [] _ (by rfl) (by rfl) (Rep.all_one' ⟨rfl, ival Hq.out, Hi.out⟩) (cellsAt_new' _ _ _ _ (by simp)) (by simp) (by rw [cellsTo_len]; simp; omega) (by decide) (by have := hB.size; simp; omega) ?_; intro v2 w2 hb2 hg2 ha2; have hz2 := app_below (w := wr) (B := w1.heap.size + 1) (by repeat' (first | assumption | exact Mod.refl _ _ | exact Mod.alloc0 _ _ | (refine Mod.setCell ?_ (by (try simp); (try omega)) _) | refine Mod.alloc ?_ _ | refine Mod.drew ?_)) (by omega) hg2 (fun g hg => (hb.own g hg).1); have hr2 := below_rules hz2; obtain ⟨hc2, hf2⟩ := hr2; have u0 := (hc2 _ 0 (Nat.lt_succ_self _)).trans q0; have u1 := (hc2 _ 1 (Nat.lt_succ_self _)).trans q1; have u2 := (hc2 _ 2 (Nat.lt_succ_self _)).trans q2; have uf := fun o => (hf2 _ o (Nat.lt_succ_self _)).trans (qf o); have uf1 := uf 1; clear hc2 hf2; have hm2 : Mod [] w1 w2 := Mod.bld (v := cv) (by repeat' (first | assumption | exact Mod.refl _ _ | exact Mod.alloc0 _ _ | (refine Mod.setCell ?_ (by (try simp); (try omega)) _) | refine Mod.alloc ?_ _ | refine Mod.drew ?_)) hg2 (fun g hg => by have := (hb.own g hg).1; omega); have hs2 : w1.heap.size + 1 ≤ w2.heap.size := (by have := hz2.size; omega); clear hz2 hg2 ha2; rw [← cellsTo_succ] at hb2; obtain ⟨A2, c2, rfl⟩ := hb2.form))
      all_goals (go_wp2_with fail; go_roundw)
      all_goals first
        | exact ⟨k + 1, hlt, by go_num, _, (World.cell?_setCell_other _ _ _ _ (by simp)).trans u0, World.cell?_setCell_same _ _ _ u1, (World.cell?_setCell_other _ _ _ _ (by simp)).trans u2, fun o => by rw [World.frozen?_setCell]; exact uf o, hb2.mod (G := [w1.heap.size]) (Mod.setCell (Mod.refl _ _) (by simp) _) (fun g hg => by have := hb2.own_le g (by simpa using hg); simp; omega), by simpa [World.setCell] using hs2, hm2.setCell (by simp) _⟩
        | (simp [intOf]; omega)
    · have hk2 : k = row.length := by omega
      subst hk2
      clear Hv hlt hk'
      cases real
      · have nn : ¬ (w1.heap.size = wr.heap.size) := by omega
        have nn' : ¬ (wr.heap.size = w1.heap.size) := by omega
        have nl : w1.heap.size < wr.heap.size := by omega
        obtain ⟨b0, b1⟩ := streamF_bd key number row.length
        have a0 : (0 : Int) ≤ (row.length : Int) := by omega
        have a1 : (row.length : Int) ≤ 99 := by omega
        have H := Lib.hid (show markCell key number row false = (0 + streamF key number row.length) % 200003 from rfl)
        have Hi : Hid (I64 (markCell key number row false)) := by rw [H.out]; exact I64.mk (by omega) (by omega)
        have Hq := Lib.hid (wrapMark0 b0 b1 (H.out.trans (by rw [Int.zero_add])))
        have hsl : (sealedCells key number row false).length = row.length + 1 := by simp [sealedCells, cellsTo_len]
        have Hsl := Lib.hid hsl
        clear hsl
        obtain ⟨z0, z1, z2⟩ : w1.cell? ⟨w.heap.size, 0, none⟩ = some (.int .i64 0) ∧ w1.cell? ⟨w.heap.size, 1, none⟩ = some (.slice none 0 0) ∧ w1.cell? ⟨w.heap.size, 2, none⟩ = some (.int .i64 0) :=
          ⟨(hc1 _ 0 (by simp)).trans (new_cell rfl), (hc1 _ 1 (by simp)).trans (new_cell rfl), (hc1 _ 2 (by simp)).trans (new_cell rfl)⟩
        have zf : ∀ o, w1.frozen? ⟨w.heap.size, o, none⟩ = false := fun o => (hf1 _ o (by simp)).trans (new_frozen o)
        have g0 : (0 : Int) ≤ 99 := by omega
        have g1 : (99 : Int) ≤ 99 := by omega
        go_wp2_with fail
        go_region_law (first | (go_simp; go_at_call 144; refine (impl_stream _ _ _ _ k0 k1 n0 n1 a0 a1).mono ?_; rintro e w' ⟨rfl, rfl⟩) | (show (if Region.wanted { dst := _, op := Op.call { callee := Callee.builtin Builtin.append, args := _, argTypes := _ }, type := _, pos := _, after := _, guard := none } _ = true then _ else _); refine step_app _ (by rfl) (.tmp 59) (.tmp 68) _ (by rfl) (w1.heap.size + 1) _ Rep.int (.int .i64 0) 8 Tryd.underlying43 (by kernel_rfl) (by rfl) (by decide) cv (cellsTo key number row row.length) [] (by rfl) (hb.mod0 (by repeat' (first | assumption | exact Mod.refl _ _ | exact Mod.alloc0 _ _ | (refine Mod.setCell ?_ (by (try simp); (try omega)) _) | refine Mod.alloc ?_ _ | refine Mod.drew ?_))) _ 1 1 [markCell key number row false] [] _ (by rfl) (by rfl) (Rep.all_one' ⟨rfl, ival Hq.out, Hi.out⟩) (cellsAt_new' _ _ _ _ (by simp)) (by simp) (by rw [cellsTo_len]; omega) (by decide) (by have := hB.size; simp; omega) ?_; intro v2 w2 hb2 hg2 ha2; have hz2 := app_below (w := wr) (B := w1.heap.size + 1) (by repeat' (first | assumption | exact Mod.refl _ _ | exact Mod.alloc0 _ _ | (refine Mod.setCell ?_ (by (try simp); (try omega)) _) | refine Mod.alloc ?_ _ | refine Mod.drew ?_)) (by omega) hg2 (fun g hg => (hb.own g hg).1); have hr2 := below_rules hz2; obtain ⟨hc2, hf2⟩ := hr2; have u0 := (hc2 _ 0 (Nat.lt_succ_self _)).trans q0; have u1 := (hc2 _ 1 (Nat.lt_succ_self _)).trans q1; have u2 := (hc2 _ 2 (Nat.lt_succ_self _)).trans q2; have uf := fun o => (hf2 _ o (Nat.lt_succ_self _)).trans (qf o); have uf1 := uf 1; clear hc2 hf2; have hm2 : Mod [] w1 w2 := Mod.bld (v := cv) (by repeat' (first | assumption | exact Mod.refl _ _ | exact Mod.alloc0 _ _ | (refine Mod.setCell ?_ (by (try simp); (try omega)) _) | refine Mod.alloc ?_ _ | refine Mod.drew ?_)) hg2 (fun g hg => by have := (hb.own g hg).1; omega); have hs2 : w1.heap.size + 1 ≤ w2.heap.size := (by have := hz2.size; omega); clear hz2 hg2 ha2; change Bld _ _ _ _ _ (sealedCells key number row false) _ at hb2; obtain ⟨A2, c2, rfl⟩ := hb2.form))
        all_goals
          have p0 := (World.cell?_setCell_other w2 ⟨w1.heap.size, 1, none⟩ ⟨w1.heap.size, 0, none⟩ (.slice A2 (sealedCells key number row false).length c2) (by simp)).trans u0
          have p1 := World.cell?_setCell_same w2 ⟨w1.heap.size, 1, none⟩ (.slice A2 (sealedCells key number row false).length c2) u1
          have p2 := (World.cell?_setCell_other w2 ⟨w1.heap.size, 1, none⟩ ⟨w1.heap.size, 2, none⟩ (.slice A2 (sealedCells key number row false).length c2) (by simp)).trans u2
          have pf : ∀ o, (w2.setCell ⟨w1.heap.size, 1, none⟩ (.slice A2 (sealedCells key number row false).length c2)).frozen? ⟨w1.heap.size, o, none⟩ = false := fun o => by rw [World.frozen?_setCell]; exact uf o
          have hb3 : Bld Rep.int 3 (w1.heap.size + 1) (w2.setCell ⟨w1.heap.size, 1, none⟩ (.slice A2 (sealedCells key number row false).length c2)) (.slice A2 (sealedCells key number row false).length c2) (sealedCells key number row false) [] := hb2.mod (G := [w1.heap.size]) (Mod.setCell (Mod.refl _ _) (by simp) _) (fun g hg => by have := hb2.own_le g (by simpa using hg); simp; omega)
          have hs3 : w1.heap.size + 1 ≤ (w2.setCell ⟨w1.heap.size, 1, none⟩ (.slice A2 (sealedCells key number row false).length c2)).heap.size := by simpa [World.setCell] using hs2
          have hm3 : Mod [] w1 (w2.setCell ⟨w1.heap.size, 1, none⟩ (.slice A2 (sealedCells key number row false).length c2)) := hm2.setCell (by simp) _
          have Hb := Lib.hid (sealedCells_bd key number row false)
          clear hc1 hf1 Hq Hi u0 u1 u2 uf uf1 hb2 hs2 hm2 hb hB hB0 q0 q1 q2 qf nn nn' nl H b0 b1
          generalize w2.setCell ⟨w1.heap.size, 1, none⟩ (.slice A2 (sealedCells key number row false).length c2) = w3 at *
          generalize sealedCells key number row false = cells at *
          have pf2 := pf 2
          have hcl : cells.length ≤ 7 := by rw [Hsl.out]; omega
          go_wp2_with (go_at_call 144; refine (impl_stream _ _ _ _ k0 k1 n0 n1 g0 g1).mono ?_; rintro e w' ⟨rfl, rfl⟩)
          go_loopw [78] (fun i wr => ∃ j : Nat, j ≤ cells.length ∧ i = .int .i64 j ∧ wr.cell? ⟨w1.heap.size, 0, none⟩ = some (.int .i64 number) ∧ wr.cell? ⟨w1.heap.size, 1, none⟩ = some (.slice A2 cells.length c2) ∧ wr.cell? ⟨w1.heap.size, 2, none⟩ = some (.int .i64 (tagF key number (cells.take j))) ∧
            (∀ o, wr.frozen? ⟨w1.heap.size, o, none⟩ = false) ∧ Bld Rep.int 3 (w1.heap.size + 1) wr (.slice A2 cells.length c2) cells [] ∧ w1.heap.size + 1 ≤ wr.heap.size ∧ Mod [] w1 wr) (fun i _ => cells.length - (intOf i).toNat)
          case atStart => exact ⟨0, Nat.zero_le _, rfl, (World.cell?_setCell_other _ _ _ _ (by simp)).trans p0, (World.cell?_setCell_other _ _ _ _ (by simp)).trans p1, World.cell?_setCell_same _ _ _ p2, fun o => by rw [World.frozen?_setCell]; exact pf o, hb3.mod (G := [w1.heap.size]) (Mod.setCell (Mod.refl _ _) (by simp) _) (fun g hg => by have := hb3.own_le g (by simpa using hg); simp; omega), by simpa [World.setCell] using hs3, hm3.setCell (by simp) _⟩
          case round =>
            obtain ⟨j, hj, rfl, r0, r1, r2, rf, hb, hs, hm⟩ := hrel
            have rf2 := rf 2
            by_cases hlt : j < cells.length
            · obtain ⟨ad2, rfl, e0, ei⟩ := hb.slice.int_at hlt
              obtain ⟨c0, c1⟩ := Hb.out j hlt
              obtain ⟨t0, t1⟩ := tagF_bd key number (cells.take j)
              have Ht := Lib.hid (tagF_succ key number cells j hlt)
              go_wp2_with fail
              go_roundw
              case rel => exact ⟨j + 1, hlt, by go_num, (World.cell?_setCell_other _ _ _ _ (by simp)).trans r0, (World.cell?_setCell_other _ _ _ _ (by simp)).trans r1, by rw [Ht.out]; exact World.cell?_setCell_same _ _ _ r2, fun o => by rw [World.frozen?_setCell]; exact rf o, hb.mod (G := [w1.heap.size]) (Mod.setCell (Mod.refl _ _) (by simp) _) (fun g hg => by have := hb.own_le g (by simpa using hg); simp; omega), by simpa [World.setCell] using hs, hm.setCell (by simp) _⟩
              case measure => simp [intOf]; omega
            · have hj2 : j = cells.length := by omega
              subst hj2
              rw [List.take_length] at r2
              obtain ⟨t0, t1⟩ := tagF_bd key number cells
              have y0 := (hm.cell (p := ⟨w.heap.size, 0, none⟩) (by show w.heap.size < _; omega) (by simp)).trans z0
              have y1 := (hm.cell (p := ⟨w.heap.size, 1, none⟩) (by show w.heap.size < _; omega) (by simp)).trans z1
              have y2 := (hm.cell (p := ⟨w.heap.size, 2, none⟩) (by show w.heap.size < _; omega) (by simp)).trans z2
              have yf : ∀ o, wr.frozen? ⟨w.heap.size, o, none⟩ = false := fun o => (World.frozen?_of_block (a := ⟨w.heap.size, o, none⟩) (hm.block w.heap.size (by omega) (by simp))).trans (zf o)
              have yf0 := yf 0
              have yf1 := yf 1
              have yf2 := yf 2
              go_wp2_with fail
              refine bodyPost_ret (v := .agg #[.int .i64 number, .slice A2 cells.length c2, .int .i64 (tagF key number cells)]) (by simp [results, Tryd.results145, go_sem, y0, y1, y2]) rfl ⟨_, rfl, ?_⟩
              rw [Hp.out]
              have hq : Mod [] w wr := ((Mod.alloc0 _ _).seq hm1).seq hm
              have hM : Mod [w.heap.size] wr (((wr.setCell ⟨w.heap.size, 0, none⟩ (.int .i64 number)).setCell ⟨w.heap.size, 1, none⟩ (.slice A2 cells.length c2)).setCell ⟨w.heap.size, 2, none⟩ (.int .i64 (tagF key number cells))) := (((Mod.refl _ _).setCell (by simp) _).setCell (by simp) _).setCell (by simp) _
              have hn : ∀ g ∈ ob (.slice A2 cells.length c2) ++ ([] : List Nat), w.heap.size < g := fun g hg => by have := hb.own_le g (by simpa using hg); omega
              have i0 : I64 number := I64.mk (by omega) (by omega)
              have i2 : I64 (tagF key number cells) := I64.mk (by omega) (by omega)
              exact ⟨_, rSealed_mk i0 (Rep.slice Rep.int |>.mod hb.slice hM (fun g hg => by have := hn g hg; simp; omega)) i2, (hb.good (Good.nil _)).mod hM (fun g hg => by have := hn g hg; simp; omega), fun g hg => Nat.le_of_lt (hn g hg), (hq.trans hM).drop (by simp)⟩
      · have nn : ¬ (w1.heap.size = wr.heap.size) := by omega
        have nn' : ¬ (wr.heap.size = w1.heap.size) := by omega
        have nl : w1.heap.size < wr.heap.size := by omega
        obtain ⟨b0, b1⟩ := streamF_bd key number row.length
        have a0 : (0 : Int) ≤ (row.length : Int) := by omega
        have a1 : (row.length : Int) ≤ 99 := by omega
        have H := Lib.hid (show markCell key number row true = (1 + streamF key number row.length) % 200003 from rfl)
        have Hi : Hid (I64 (markCell key number row true)) := by rw [H.out]; exact I64.mk (by omega) (by omega)
        have Hq := Lib.hid (wrapMark (m := 1) (by omega) (by omega) b0 b1 H.out)
        have hsl : (sealedCells key number row true).length = row.length + 1 := by simp [sealedCells, cellsTo_len]
        have Hsl := Lib.hid hsl
        clear hsl
        obtain ⟨z0, z1, z2⟩ : w1.cell? ⟨w.heap.size, 0, none⟩ = some (.int .i64 0) ∧ w1.cell? ⟨w.heap.size, 1, none⟩ = some (.slice none 0 0) ∧ w1.cell? ⟨w.heap.size, 2, none⟩ = some (.int .i64 0) :=
          ⟨(hc1 _ 0 (by simp)).trans (new_cell rfl), (hc1 _ 1 (by simp)).trans (new_cell rfl), (hc1 _ 2 (by simp)).trans (new_cell rfl)⟩
        have zf : ∀ o, w1.frozen? ⟨w.heap.size, o, none⟩ = false := fun o => (hf1 _ o (by simp)).trans (new_frozen o)
        have g0 : (0 : Int) ≤ 99 := by omega
        have g1 : (99 : Int) ≤ 99 := by omega
        go_wp2_with fail
        go_region_law (first | (go_simp; go_at_call 144; refine (impl_stream _ _ _ _ k0 k1 n0 n1 a0 a1).mono ?_; rintro e w' ⟨rfl, rfl⟩) | (show (if Region.wanted { dst := _, op := Op.call { callee := Callee.builtin Builtin.append, args := _, argTypes := _ }, type := _, pos := _, after := _, guard := none } _ = true then _ else _); refine step_app _ (by rfl) (.tmp 59) (.tmp 68) _ (by rfl) (w1.heap.size + 1) _ Rep.int (.int .i64 0) 8 Tryd.underlying43 (by kernel_rfl) (by rfl) (by decide) cv (cellsTo key number row row.length) [] (by rfl) (hb.mod0 (by repeat' (first | assumption | exact Mod.refl _ _ | exact Mod.alloc0 _ _ | (refine Mod.setCell ?_ (by (try simp); (try omega)) _) | refine Mod.alloc ?_ _ | refine Mod.drew ?_))) _ 1 1 [markCell key number row true] [] _ (by rfl) (by rfl) (Rep.all_one' ⟨rfl, ival Hq.out, Hi.out⟩) (cellsAt_new' _ _ _ _ (by simp)) (by simp) (by rw [cellsTo_len]; omega) (by decide) (by have := hB.size; simp; omega) ?_; intro v2 w2 hb2 hg2 ha2; have hz2 := app_below (w := wr) (B := w1.heap.size + 1) (by repeat' (first | assumption | exact Mod.refl _ _ | exact Mod.alloc0 _ _ | (refine Mod.setCell ?_ (by (try simp); (try omega)) _) | refine Mod.alloc ?_ _ | refine Mod.drew ?_)) (by omega) hg2 (fun g hg => (hb.own g hg).1); have hr2 := below_rules hz2; obtain ⟨hc2, hf2⟩ := hr2; have u0 := (hc2 _ 0 (Nat.lt_succ_self _)).trans q0; have u1 := (hc2 _ 1 (Nat.lt_succ_self _)).trans q1; have u2 := (hc2 _ 2 (Nat.lt_succ_self _)).trans q2; have uf := fun o => (hf2 _ o (Nat.lt_succ_self _)).trans (qf o); have uf1 := uf 1; clear hc2 hf2; have hm2 : Mod [] w1 w2 := Mod.bld (v := cv) (by repeat' (first | assumption | exact Mod.refl _ _ | exact Mod.alloc0 _ _ | (refine Mod.setCell ?_ (by (try simp); (try omega)) _) | refine Mod.alloc ?_ _ | refine Mod.drew ?_)) hg2 (fun g hg => by have := (hb.own g hg).1; omega); have hs2 : w1.heap.size + 1 ≤ w2.heap.size := (by have := hz2.size; omega); clear hz2 hg2 ha2; change Bld _ _ _ _ _ (sealedCells key number row true) _ at hb2; obtain ⟨A2, c2, rfl⟩ := hb2.form))
        all_goals
          have p0 := (World.cell?_setCell_other w2 ⟨w1.heap.size, 1, none⟩ ⟨w1.heap.size, 0, none⟩ (.slice A2 (sealedCells key number row true).length c2) (by simp)).trans u0
          have p1 := World.cell?_setCell_same w2 ⟨w1.heap.size, 1, none⟩ (.slice A2 (sealedCells key number row true).length c2) u1
          have p2 := (World.cell?_setCell_other w2 ⟨w1.heap.size, 1, none⟩ ⟨w1.heap.size, 2, none⟩ (.slice A2 (sealedCells key number row true).length c2) (by simp)).trans u2
          have pf : ∀ o, (w2.setCell ⟨w1.heap.size, 1, none⟩ (.slice A2 (sealedCells key number row true).length c2)).frozen? ⟨w1.heap.size, o, none⟩ = false := fun o => by rw [World.frozen?_setCell]; exact uf o
          have hb3 : Bld Rep.int 3 (w1.heap.size + 1) (w2.setCell ⟨w1.heap.size, 1, none⟩ (.slice A2 (sealedCells key number row true).length c2)) (.slice A2 (sealedCells key number row true).length c2) (sealedCells key number row true) [] := hb2.mod (G := [w1.heap.size]) (Mod.setCell (Mod.refl _ _) (by simp) _) (fun g hg => by have := hb2.own_le g (by simpa using hg); simp; omega)
          have hs3 : w1.heap.size + 1 ≤ (w2.setCell ⟨w1.heap.size, 1, none⟩ (.slice A2 (sealedCells key number row true).length c2)).heap.size := by simpa [World.setCell] using hs2
          have hm3 : Mod [] w1 (w2.setCell ⟨w1.heap.size, 1, none⟩ (.slice A2 (sealedCells key number row true).length c2)) := hm2.setCell (by simp) _
          have Hb := Lib.hid (sealedCells_bd key number row true)
          clear hc1 hf1 Hq Hi u0 u1 u2 uf uf1 hb2 hs2 hm2 hb hB hB0 q0 q1 q2 qf nn nn' nl H b0 b1
          generalize w2.setCell ⟨w1.heap.size, 1, none⟩ (.slice A2 (sealedCells key number row true).length c2) = w3 at *
          generalize sealedCells key number row true = cells at *
          have pf2 := pf 2
          have hcl : cells.length ≤ 7 := by rw [Hsl.out]; omega
          go_wp2_with (go_at_call 144; refine (impl_stream _ _ _ _ k0 k1 n0 n1 g0 g1).mono ?_; rintro e w' ⟨rfl, rfl⟩)
          go_loopw [78] (fun i wr => ∃ j : Nat, j ≤ cells.length ∧ i = .int .i64 j ∧ wr.cell? ⟨w1.heap.size, 0, none⟩ = some (.int .i64 number) ∧ wr.cell? ⟨w1.heap.size, 1, none⟩ = some (.slice A2 cells.length c2) ∧ wr.cell? ⟨w1.heap.size, 2, none⟩ = some (.int .i64 (tagF key number (cells.take j))) ∧
            (∀ o, wr.frozen? ⟨w1.heap.size, o, none⟩ = false) ∧ Bld Rep.int 3 (w1.heap.size + 1) wr (.slice A2 cells.length c2) cells [] ∧ w1.heap.size + 1 ≤ wr.heap.size ∧ Mod [] w1 wr) (fun i _ => cells.length - (intOf i).toNat)
          case atStart => exact ⟨0, Nat.zero_le _, rfl, (World.cell?_setCell_other _ _ _ _ (by simp)).trans p0, (World.cell?_setCell_other _ _ _ _ (by simp)).trans p1, World.cell?_setCell_same _ _ _ p2, fun o => by rw [World.frozen?_setCell]; exact pf o, hb3.mod (G := [w1.heap.size]) (Mod.setCell (Mod.refl _ _) (by simp) _) (fun g hg => by have := hb3.own_le g (by simpa using hg); simp; omega), by simpa [World.setCell] using hs3, hm3.setCell (by simp) _⟩
          case round =>
            obtain ⟨j, hj, rfl, r0, r1, r2, rf, hb, hs, hm⟩ := hrel
            have rf2 := rf 2
            by_cases hlt : j < cells.length
            · obtain ⟨ad2, rfl, e0, ei⟩ := hb.slice.int_at hlt
              obtain ⟨c0, c1⟩ := Hb.out j hlt
              obtain ⟨t0, t1⟩ := tagF_bd key number (cells.take j)
              have Ht := Lib.hid (tagF_succ key number cells j hlt)
              go_wp2_with fail
              go_roundw
              case rel => exact ⟨j + 1, hlt, by go_num, (World.cell?_setCell_other _ _ _ _ (by simp)).trans r0, (World.cell?_setCell_other _ _ _ _ (by simp)).trans r1, by rw [Ht.out]; exact World.cell?_setCell_same _ _ _ r2, fun o => by rw [World.frozen?_setCell]; exact rf o, hb.mod (G := [w1.heap.size]) (Mod.setCell (Mod.refl _ _) (by simp) _) (fun g hg => by have := hb.own_le g (by simpa using hg); simp; omega), by simpa [World.setCell] using hs, hm.setCell (by simp) _⟩
              case measure => simp [intOf]; omega
            · have hj2 : j = cells.length := by omega
              subst hj2
              rw [List.take_length] at r2
              obtain ⟨t0, t1⟩ := tagF_bd key number cells
              have y0 := (hm.cell (p := ⟨w.heap.size, 0, none⟩) (by show w.heap.size < _; omega) (by simp)).trans z0
              have y1 := (hm.cell (p := ⟨w.heap.size, 1, none⟩) (by show w.heap.size < _; omega) (by simp)).trans z1
              have y2 := (hm.cell (p := ⟨w.heap.size, 2, none⟩) (by show w.heap.size < _; omega) (by simp)).trans z2
              have yf : ∀ o, wr.frozen? ⟨w.heap.size, o, none⟩ = false := fun o => (World.frozen?_of_block (a := ⟨w.heap.size, o, none⟩) (hm.block w.heap.size (by omega) (by simp))).trans (zf o)
              have yf0 := yf 0
              have yf1 := yf 1
              have yf2 := yf 2
              go_wp2_with fail
              refine bodyPost_ret (v := .agg #[.int .i64 number, .slice A2 cells.length c2, .int .i64 (tagF key number cells)]) (by simp [results, Tryd.results145, go_sem, y0, y1, y2]) rfl ⟨_, rfl, ?_⟩
              rw [Hp.out]
              have hq : Mod [] w wr := ((Mod.alloc0 _ _).seq hm1).seq hm
              have hM : Mod [w.heap.size] wr (((wr.setCell ⟨w.heap.size, 0, none⟩ (.int .i64 number)).setCell ⟨w.heap.size, 1, none⟩ (.slice A2 cells.length c2)).setCell ⟨w.heap.size, 2, none⟩ (.int .i64 (tagF key number cells))) := (((Mod.refl _ _).setCell (by simp) _).setCell (by simp) _).setCell (by simp) _
              have hn : ∀ g ∈ ob (.slice A2 cells.length c2) ++ ([] : List Nat), w.heap.size < g := fun g hg => by have := hb.own_le g (by simpa using hg); omega
              have i0 : I64 number := I64.mk (by omega) (by omega)
              have i2 : I64 (tagF key number cells) := I64.mk (by omega) (by omega)
              exact ⟨_, rSealed_mk i0 (Rep.slice Rep.int |>.mod hb.slice hM (fun g hg => by have := hn g hg; simp; omega)) i2, (hb.good (Good.nil _)).mod hM (fun g hg => by have := hn g hg; simp; omega), fun g hg => Nat.le_of_lt (hn g hg), (hq.trans hM).drop (by simp)⟩
end Go.Proofs.YtldknaajnnohiaaDoor
