/- CutPadded: the reference's contract. -/
import Derived.Test.YtldknaajnnohiaaDoorCutP
import Derived.Test.YtldknaajnnohiaaDoorCopy
namespace Go.Proofs.YtldknaajnnohiaaDoor
open Go.RowKit

theorem Sat.mkPaddedR {w0 w : World} {Γ : List Fact} {x0 : (List ByteArray)} {v0 : Value} {x1 : (List (List Int))} {v1 : Value} {x2 : (List Bool)} {v2 : Value} (h : Sat w0 w (.own Rep.bool.slice [v2] x2 :: .own (Rep.int.slice).slice [v1] x1 :: .own Rep.str.slice [v0] x0 :: Γ)) : Sat w0 w (.own rPadded [v0, v1, v2] (x0, x1, x2) :: Γ) := by
  replace h := Sat.swap h
  replace h := Sat.pair h
  replace h := Sat.swap h
  replace h := Sat.pair h
  exact h
theorem Sat.weakO {α : Type} {e e' : Rep α} [hs : Sub e e'] {w0 w : World} {Γ : List Fact} {cs : List Value} {x : α} (h : Sat w0 w (.own e cs x :: Γ)) : Sat w0 w (.own e' cs x :: Γ) := h.conv (fun _ k => hs.imp k)
/-- Prefixes of the two lists, and the names, are a padded table. -/
theorem Sat.cutPadded {w0 w : World} {Γ : List Fact} {A1 A2 A3 : Option Addr} {c1 c2 c3 n1 M m n : Nat} {ns : List ByteArray} {rows : List (List Int)} {real : List Bool} (h : Sat w0 w (.own Rep.bool.rows [.slice A3 m c3] real :: .own Rep.int.rows.rows [.slice A2 n c2] rows :: .own Rep.str.rows [.slice A1 n1 c1] ns :: Γ)) (hm : M ≤ m) (hn : M ≤ n) :
    Sat w0 w (.own rPadded [.slice A1 n1 c1, .slice A2 M c2, .slice A3 M c3] (ns, rows.take M, real.take M) :: Γ) := by
  have h1 := Sat.takeOwn (Sat.weakO (e' := Rep.bool.slice) h) hm
  have h2 := Sat.takeOwn (Sat.weakO (e' := Rep.int.slice.slice) (h1.pull 1 rfl)) hn
  have h3 := Sat.weakO (e' := Rep.str.slice) (h2.pull 2 rfl)
  exact Sat.mkPaddedR ((h3.pull 1 rfl).pull 2 rfl)
theorem any_drop_f {real : List Bool} {M : Nat} (h : ∀ (j : Nat) (hj : j < real.length), M ≤ j → real[j] = false) : (real.drop M).any id = false := by
  rw [List.any_eq_false]
  intro x hx
  obtain ⟨k, hk, rfl⟩ := List.mem_iff_getElem.1 hx
  rw [List.getElem_drop, h (M + k) (by rw [List.length_drop] at hk; omega) (by omega)]
  simp
theorem any_drop_t {real : List Bool} {M j : Nat} (hj : j < real.length) (hM : M ≤ j) (h : real[j] = true) : (real.drop M).any id = true := by
  rw [List.any_eq_true]
  refine ⟨real[j], ?_, h⟩
  rw [List.mem_iff_getElem]
  exact ⟨j - M, by rw [List.length_drop]; omega, by rw [List.getElem_drop]; congr 1; omega⟩
set_option maxHeartbeats 4000000 in
set_option maxRecDepth 8000 in
theorem spec_CutPadded' (size : Int) (w : World) (A1 A2 A3 : Option Addr) (c1 c2 c3 : Nat) (F G H' : List Nat) (ns : List ByteArray) (rows : List (List Int)) (real : List Bool) (hx : SliceHas Rep.str w F [.slice A1 ns.length c1] ns) (hy : SliceHas Rep.int.slice w G [.slice A2 rows.length c2] rows) (hz : SliceHas Rep.bool w H' [.slice A3 real.length c3] real) :
    Calls Tryd.prog 37 #[.agg #[.slice A1 ns.length c1, .slice A2 rows.length c2, .slice A3 real.length c3], .int .i64 size] w fun e w' => ∃ cs, e = .returned (.tuple #[.agg cs.toArray, .bool (cutF (ns, rows, real) size).2]) ∧ Fresh rPadded w w' cs (cutF (ns, rows, real) size).1 := by
  have hS : Sat w w [.ro Rep.str.slice [.slice A1 ns.length c1] ns, .ro Rep.int.slice.slice [.slice A2 rows.length c2] rows, .ro Rep.bool.slice [.slice A3 real.length c3] real] := (((Sat.nil w).arg hz).arg hy).arg hx
  clear hx hy hz
  cases hp : paddedOk (ns, rows, real)
  · have H := Lib.hid (cutF_p (size := size) hp)
    have Hp := Lib.hid hp
    clear hp
    go_enter Tryd.func37, Tryd.ntmps37
    go_wp2_with (first | (go_at_call 74; obtain ⟨Fq, hFq⟩ := hS.has Rep.str.slice [.slice A1 ns.length c1]; obtain ⟨Fr, hFr⟩ := hS.has Rep.int.slice.slice [.slice A2 rows.length c2]; obtain ⟨Fs, hFs⟩ := hS.has Rep.bool.slice [.slice A3 real.length c3]; refine (spec_PaddedValid' _ A1 A2 A3 c1 c2 c3 Fq Fr Fs ns rows real hFq hFr hFs).mono ?_; rintro e w' ⟨rfl, hM⟩; replace hS := hS.mod hM; clear hM hFq hFr hFs; (simp only [Hp.out])) | ((with_reducible show wpList _ _ _ (⟨_, Op.box _ _, _, _, _, _⟩ :: _) _ _); refine Does.list (does_box hS rfl rfl (by rfl)) rfl ?_; clear hS; rintro _ wx ⟨bo, rfl, hS, _⟩; (simp only [Act.put, List.setIfInBounds_toArray, List.set_cons_zero, List.set_cons_succ])) | ((with_reducible show wpList _ _ _ (⟨_, Op.load _ _, _, _, _, _⟩ :: _) _ _); (first | refine Gives.list (f_load hS rfl rfl (by rfl)) rfl ?_ | refine Gives.list (f_loadS hS rfl rfl (by rfl)) rfl ?_ | refine Gives.list (f_loadAt hS rfl rfl) rfl ?_ | refine Gives.list (f_loadAtS hS rfl rfl (by rfl)) rfl ?_ | refine Gives.list (f_loadAtF hS rfl rfl (by rfl)) rfl ?_); (simp only [Act.put, List.setIfInBounds_toArray, List.set_cons_zero, List.set_cons_succ])) | ((with_reducible show wpList _ _ _ (⟨_, Op.store _ _ _, _, _, _, _⟩ :: _) _ _); (first | refine Does.list (f_store hS rfl rfl rfl (by rfl) (by rfl)) rfl ?_ | refine Does.list (f_storeS hS rfl rfl rfl (by rfl) (by rfl) (by rfl)) rfl ?_); clear hS; rintro _ wx ⟨rfl, hS⟩; (simp only [List.set_cons_zero, List.set_cons_succ] at hS); (simp only [Act.put, List.setIfInBounds_toArray, List.set_cons_zero, List.set_cons_succ])) | ((with_reducible show wpList _ _ _ (⟨_, Op.alloc _, _, _, _, _⟩ :: _) _ _); refine Does.list (does_alloc hS rfl (by rfl)) rfl ?_; clear hS; rintro _ wx ⟨ba, rfl, hS, _⟩; (simp only [Act.put, List.setIfInBounds_toArray, List.set_cons_zero, List.set_cons_succ])))
    (try simp only [Exit.inBlock, Exit.then]); refine bodyPost_ret (hS.resultCellTmp rfl rfl (by rfl)) rfl ?_
    exact ret_pb H.out (Sat.weakO (Sat.zeroPadded hS)).result
  have Hp := Lib.hid hp
  cases hi : inB size 0 256
  · have H := Lib.hid (cutF_i (p := (ns, rows, real)) hi)
    have Hi := Lib.hid hi
    clear hp hi
    go_enter Tryd.func37, Tryd.ntmps37
    go_wp2_with (first | (go_at_call 74; obtain ⟨Fq, hFq⟩ := hS.has Rep.str.slice [.slice A1 ns.length c1]; obtain ⟨Fr, hFr⟩ := hS.has Rep.int.slice.slice [.slice A2 rows.length c2]; obtain ⟨Fs, hFs⟩ := hS.has Rep.bool.slice [.slice A3 real.length c3]; refine (spec_PaddedValid' _ A1 A2 A3 c1 c2 c3 Fq Fr Fs ns rows real hFq hFr hFs).mono ?_; rintro e w' ⟨rfl, hM⟩; replace hS := hS.mod hM; clear hM hFq hFr hFs; (simp only [Hp.out])) | (go_at_call 82; refine (spec_in _ _ _ _).mono ?_; rintro e w' ⟨rfl, rfl⟩; (simp only [Hi.out])) | ((with_reducible show wpList _ _ _ (⟨_, Op.box _ _, _, _, _, _⟩ :: _) _ _); refine Does.list (does_box hS rfl rfl (by rfl)) rfl ?_; clear hS; rintro _ wx ⟨bo, rfl, hS, _⟩; (simp only [Act.put, List.setIfInBounds_toArray, List.set_cons_zero, List.set_cons_succ])) | ((with_reducible show wpList _ _ _ (⟨_, Op.load _ _, _, _, _, _⟩ :: _) _ _); (first | refine Gives.list (f_load hS rfl rfl (by rfl)) rfl ?_ | refine Gives.list (f_loadS hS rfl rfl (by rfl)) rfl ?_ | refine Gives.list (f_loadAt hS rfl rfl) rfl ?_ | refine Gives.list (f_loadAtS hS rfl rfl (by rfl)) rfl ?_ | refine Gives.list (f_loadAtF hS rfl rfl (by rfl)) rfl ?_); (simp only [Act.put, List.setIfInBounds_toArray, List.set_cons_zero, List.set_cons_succ])) | ((with_reducible show wpList _ _ _ (⟨_, Op.store _ _ _, _, _, _, _⟩ :: _) _ _); (first | refine Does.list (f_store hS rfl rfl rfl (by rfl) (by rfl)) rfl ?_ | refine Does.list (f_storeS hS rfl rfl rfl (by rfl) (by rfl) (by rfl)) rfl ?_); clear hS; rintro _ wx ⟨rfl, hS⟩; (simp only [List.set_cons_zero, List.set_cons_succ] at hS); (simp only [Act.put, List.setIfInBounds_toArray, List.set_cons_zero, List.set_cons_succ])) | ((with_reducible show wpList _ _ _ (⟨_, Op.alloc _, _, _, _, _⟩ :: _) _ _); refine Does.list (does_alloc hS rfl (by rfl)) rfl ?_; clear hS; rintro _ wx ⟨ba, rfl, hS, _⟩; (simp only [Act.put, List.setIfInBounds_toArray, List.set_cons_zero, List.set_cons_succ])))
    (try simp only [Exit.inBlock, Exit.then]); refine bodyPost_ret (hS.resultCellTmp rfl rfl (by rfl)) rfl ?_
    exact ret_pb H.out (Sat.weakO (Sat.zeroPadded hS)).result
  have Hi := Lib.hid hi
  obtain ⟨hs0, hs1⟩ := inB_of hi
  obtain ⟨hl6, hr6⟩ := padded_rows6 hp
  obtain ⟨hl256, hrl⟩ := padded_lenC hp
  have Hps := Lib.hid (padded_smallC hp (by omega))
  have Hp2 := Lib.hid hp
  have Hi2 := Lib.hid hi
  clear hp hi hr6
  by_cases h : ¬ (rows.length : Int) < size
  · obtain ⟨M, rfl⟩ : ∃ M : Nat, size = (M : Int) := ⟨size.toNat, by omega⟩
    have HM : Hid (cutM (M : Int) rows.length = M) := Lib.hid (by unfold cutM; omega)
    have HT : Hid ((real.drop (M)).any id = true → cutF (ns, rows, real) (M : Int) = (zeroP, false)) := Lib.hid (fun h3 => cutF_any Hp2.out Hi2.out HM.out h3)
    have HF : Hid ((real.drop (M)).any id = false → cutF (ns, rows, real) (M : Int) = ((ns, rows.take (M), real.take (M)), true)) := Lib.hid (fun h3 => cutF_ok Hp2.out Hi2.out HM.out h3)
    have hMr : M ≤ rows.length := by omega
    have hMl : M ≤ real.length := by omega
    have Hrl := Lib.hid hrl
    clear hrl Hp2 Hi2 HM
    go_enter Tryd.func37, Tryd.ntmps37
    go_wp2_with (first | (go_at_call 74; obtain ⟨Fq, hFq⟩ := hS.has Rep.str.slice [.slice A1 ns.length c1]; obtain ⟨Fr, hFr⟩ := hS.has Rep.int.slice.slice [.slice A2 rows.length c2]; obtain ⟨Fs, hFs⟩ := hS.has Rep.bool.slice [.slice A3 real.length c3]; refine (spec_PaddedValid' _ A1 A2 A3 c1 c2 c3 Fq Fr Fs ns rows real hFq hFr hFs).mono ?_; rintro e w' ⟨rfl, hM⟩; replace hS := hS.mod hM; clear hM hFq hFr hFs; (simp only [Hp.out])) | (go_at_call 82; refine (spec_in _ _ _ _).mono ?_; rintro e w' ⟨rfl, rfl⟩; (simp only [Hi.out])) | ((with_reducible show wpList _ _ _ (⟨_, Op.box _ _, _, _, _, _⟩ :: _) _ _); refine Does.list (does_box hS rfl rfl (by rfl)) rfl ?_; clear hS; rintro _ wx ⟨bo, rfl, hS, _⟩; (simp only [Act.put, List.setIfInBounds_toArray, List.set_cons_zero, List.set_cons_succ])) | ((with_reducible show wpList _ _ _ (⟨_, Op.load _ _, _, _, _, _⟩ :: _) _ _); (first | refine Gives.list (f_load hS rfl rfl (by rfl)) rfl ?_ | refine Gives.list (f_loadS hS rfl rfl (by rfl)) rfl ?_ | refine Gives.list (f_loadAt hS rfl rfl) rfl ?_ | refine Gives.list (f_loadAtS hS rfl rfl (by rfl)) rfl ?_ | refine Gives.list (f_loadAtF hS rfl rfl (by rfl)) rfl ?_); (simp only [Act.put, List.setIfInBounds_toArray, List.set_cons_zero, List.set_cons_succ])) | ((with_reducible show wpList _ _ _ (⟨_, Op.alloc _, _, _, _, _⟩ :: _) _ _); refine Does.list (does_alloc hS rfl (by rfl)) rfl ?_; clear hS; rintro _ wx ⟨ba, rfl, hS, _⟩; (simp only [Act.put, List.setIfInBounds_toArray, List.set_cons_zero, List.set_cons_succ])))
    go_loopw [7] (fun i wr => ∃ k : Nat, i = .int .i64 k ∧ M ≤ k ∧ k ≤ rows.length ∧ Hid (∀ (j : Nat) (hj : j < real.length), M ≤ j → j < k → real[j] = false) ∧ Sat w wr [.box ba [.slice none 0 0, .slice none 0 0, .slice none 0 0], .box bo [.slice A1 ns.length c1, .slice A2 rows.length c2, .slice A3 real.length c3], .ro Rep.str.slice [.slice A1 ns.length c1] ns, .ro Rep.int.slice.slice [.slice A2 rows.length c2] rows, .ro Rep.bool.slice [.slice A3 real.length c3] real]) (fun i _ => rows.length - (intOf i).toNat)
    case atStart => exact ⟨M, rfl, Nat.le_refl _, hMr, Lib.hid (by intro j hj h1 h2; omega), hS⟩
    case round =>
      clear hS
      obtain ⟨k, rfl, hk0, hk1, hz, hS⟩ := hrel
      by_cases hlt : k < rows.length
      · have hltI : (k : Int) < (rows.length : Int) := by omega
        have hlt3 : k < real.length := by rw [Hrl.out]; exact hlt
        have hltJ : (k : Int) < (real.length : Int) := by omega
        obtain ⟨ad3, rfl, hS⟩ := hS.elBool A3 real.length c3 (get_some hlt3)
        have HT2 : Hid (real[k] = true → cutF (ns, rows, real) (M : Int) = (zeroP, false)) := Lib.hid (fun h => HT.out (any_drop_t hlt3 hk0 h))
        have HZ : Hid (real[k] = false → ∀ (j : Nat) (hj : j < real.length), M ≤ j → j < k + 1 → real[j] = false) := Lib.hid (fun h j hj h1 h2 => by rcases Nat.lt_succ_iff_lt_or_eq.1 h2 with h3 | h3; exact hz.out j hj h1 h3; subst h3; exact h)
        obtain ⟨b, hb⟩ : ∃ b, real[k] = b := ⟨_, rfl⟩
        rw [hb] at hS HT2 HZ
        clear hb
        cases b
        · go_wp2_with (first | ((with_reducible show wpList _ _ _ (⟨_, Op.load _ _, _, _, _, _⟩ :: _) _ _); (first | refine Gives.list (f_load hS rfl rfl (by rfl)) rfl ?_ | refine Gives.list (f_loadS hS rfl rfl (by rfl)) rfl ?_ | refine Gives.list (f_loadAt hS rfl rfl) rfl ?_ | refine Gives.list (f_loadAtS hS rfl rfl (by rfl)) rfl ?_ | refine Gives.list (f_loadAtF hS rfl rfl (by rfl)) rfl ?_); (simp only [Act.put, List.setIfInBounds_toArray, List.set_cons_zero, List.set_cons_succ])))
          go_roundw
          case rel => exact ⟨k + 1, by go_num, by omega, hlt, Lib.hid (HZ.out (by first | trivial | rfl)), hS.sel [1, 2, 3, 4, 5] rfl (by decide)⟩
          case measure => simp [intOf]; omega
        · go_wp2_with (first | ((with_reducible show wpList _ _ _ (⟨_, Op.load _ _, _, _, _, _⟩ :: _) _ _); (first | refine Gives.list (f_load hS rfl rfl (by rfl)) rfl ?_ | refine Gives.list (f_loadS hS rfl rfl (by rfl)) rfl ?_ | refine Gives.list (f_loadAt hS rfl rfl) rfl ?_ | refine Gives.list (f_loadAtS hS rfl rfl (by rfl)) rfl ?_ | refine Gives.list (f_loadAtF hS rfl rfl (by rfl)) rfl ?_); (simp only [Act.put, List.setIfInBounds_toArray, List.set_cons_zero, List.set_cons_succ])) | ((with_reducible show wpList _ _ _ (⟨_, Op.store _ _ _, _, _, _, _⟩ :: _) _ _); (first | refine Does.list (f_store hS rfl rfl rfl (by rfl) (by rfl)) rfl ?_ | refine Does.list (f_storeS hS rfl rfl rfl (by rfl) (by rfl) (by rfl)) rfl ?_); clear hS; rintro _ wx ⟨rfl, hS⟩; (simp only [List.set_cons_zero, List.set_cons_succ] at hS); (simp only [Act.put, List.setIfInBounds_toArray, List.set_cons_zero, List.set_cons_succ])))
          (try simp only [Exit.inBlock, Exit.then]); refine bodyPost_ret (hS.resultCellTmp rfl rfl (by rfl)) rfl ?_
          exact ret_pb (HT2.out (by first | trivial | rfl)) (Sat.weakO (Sat.zeroPadded hS)).result
      · obtain rfl : k = rows.length := by omega
        have H := Lib.hid (HF.out (any_drop_f (fun j hj h1 => hz.out j hj h1 (by have := Hrl.out; omega))))
        clear HT HF
        go_wp2_with (first | (go_at_call 97; obtain ⟨Fq, hFq⟩ := hS.has Rep.str.slice [.slice A1 ns.length c1]; obtain ⟨Fr, hFr⟩ := hS.has Rep.int.slice.slice [.slice A2 rows.length c2]; obtain ⟨Fs, hFs⟩ := hS.has Rep.bool.slice [.slice A3 real.length c3]; refine (spec_l8Copy _ A1 A2 A3 c1 c2 c3 Fq Fr Fs ns rows real hFq hFr hFs Hps.out).mono ?_; rintro e w' ⟨cs, rfl, hN⟩; replace hS := hS.fresh hN; clear hN hFq hFr hFs; have hS2 := Sat.openOwnPadded hS; clear hS; obtain ⟨B1, d1, B2, d2, B3, d3, rfl, hS⟩ := hS2; (dsimp only at hS); obtain ⟨Fr, hFr⟩ := hS.has Rep.int.slice.slice [.slice B2 rows.length d2]; obtain ⟨Fs, hFs⟩ := hS.has Rep.bool.slice [.slice B3 real.length d3]; have hcap2 := SliceHas.capLe hFr; have hcap3 := SliceHas.capLe hFs; clear hFr hFs) | ((with_reducible show wpList _ _ _ (⟨_, Op.slice _ _ _ _ _, _, _, _, _⟩ :: _) _ _); (first | refine Gives.list (u := .slice B2 (M) d2) (pure_take (by rfl) (by rfl) (by rfl) (by omega) hcap2 _) rfl ?_ | refine Gives.list (u := .slice B3 (M) d3) (pure_take (by rfl) (by rfl) (by rfl) (by omega) hcap3 _) rfl ?_); (simp only [Act.put, List.setIfInBounds_toArray, List.set_cons_zero, List.set_cons_succ])) | ((with_reducible show wpList _ _ _ (⟨_, Op.store _ _ _, _, _, _, _⟩ :: _) _ _); (first | refine Does.list (f_store (u := .int .i64 _) hS rfl rfl rfl (by rfl) (by rfl)) rfl ?_ | refine Does.list (f_store (u := .slice _ _ _) hS rfl rfl rfl (by rfl) (by rfl)) rfl ?_ | refine Does.list (f_store (u := .string _) hS rfl rfl rfl (by rfl) (by rfl)) rfl ?_ | refine Does.list (f_store (u := .bool _) hS rfl rfl rfl (by rfl) (by rfl)) rfl ?_); clear hS; rintro _ wx ⟨rfl, hS⟩; (simp only [List.set_cons_zero, List.set_cons_succ] at hS); (simp only [Act.put, List.setIfInBounds_toArray, List.set_cons_zero, List.set_cons_succ])) | ((with_reducible show wpList _ _ _ (⟨_, Op.load _ _, _, _, _, _⟩ :: _) _ _); (first | refine Gives.list (f_load hS rfl rfl (by rfl)) rfl ?_ | refine Gives.list (f_loadS hS rfl rfl (by rfl)) rfl ?_ | refine Gives.list (f_loadAt hS rfl rfl) rfl ?_ | refine Gives.list (f_loadAtS hS rfl rfl (by rfl)) rfl ?_ | refine Gives.list (f_loadAtF hS rfl rfl (by rfl)) rfl ?_); (simp only [Act.put, List.setIfInBounds_toArray, List.set_cons_zero, List.set_cons_succ])) | ((with_reducible show wpList _ _ _ (⟨_, Op.store _ _ _, _, _, _, _⟩ :: _) _ _); (first | refine Does.list (f_store hS rfl rfl rfl (by rfl) (by rfl)) rfl ?_ | refine Does.list (f_storeS hS rfl rfl rfl (by rfl) (by rfl) (by rfl)) rfl ?_); clear hS; rintro _ wx ⟨rfl, hS⟩; (simp only [List.set_cons_zero, List.set_cons_succ] at hS); (simp only [Act.put, List.setIfInBounds_toArray, List.set_cons_zero, List.set_cons_succ])) | ((with_reducible show wpList _ _ _ (⟨_, Op.alloc _, _, _, _, _⟩ :: _) _ _); refine Does.list (does_alloc hS rfl (by rfl)) rfl ?_; clear hS; rintro _ wx ⟨ba, rfl, hS, _⟩; (simp only [Act.put, List.setIfInBounds_toArray, List.set_cons_zero, List.set_cons_succ])))
        (try simp only [Exit.inBlock, Exit.then]); refine bodyPost_ret (hS.resultCellTmp rfl rfl (by rfl)) rfl ?_
        exact ret_pb H.out (Sat.cutPadded (hS.sel (Γ' := [.own Rep.bool.rows [.slice B3 real.length d3] real, .own Rep.int.rows.rows [.slice B2 rows.length d2] rows, .own Rep.str.rows [.slice B1 ns.length d1] ns]) [1, 2, 3] rfl (by decide)) hMl hMr).result
  · replace h : (rows.length : Int) < size := by omega
    have HM : Hid (cutM size rows.length = rows.length) := Lib.hid (by unfold cutM; omega)
    have HT : Hid ((real.drop (rows.length)).any id = true → cutF (ns, rows, real) size = (zeroP, false)) := Lib.hid (fun h3 => cutF_any Hp2.out Hi2.out HM.out h3)
    have HF : Hid ((real.drop (rows.length)).any id = false → cutF (ns, rows, real) size = ((ns, rows.take (rows.length), real.take (rows.length)), true)) := Lib.hid (fun h3 => cutF_ok Hp2.out Hi2.out HM.out h3)
    have hMr : rows.length ≤ rows.length := by omega
    have hMl : rows.length ≤ real.length := by omega
    have Hrl := Lib.hid hrl
    clear hrl Hp2 Hi2 HM
    go_enter Tryd.func37, Tryd.ntmps37
    go_wp2_with (first | (go_at_call 74; obtain ⟨Fq, hFq⟩ := hS.has Rep.str.slice [.slice A1 ns.length c1]; obtain ⟨Fr, hFr⟩ := hS.has Rep.int.slice.slice [.slice A2 rows.length c2]; obtain ⟨Fs, hFs⟩ := hS.has Rep.bool.slice [.slice A3 real.length c3]; refine (spec_PaddedValid' _ A1 A2 A3 c1 c2 c3 Fq Fr Fs ns rows real hFq hFr hFs).mono ?_; rintro e w' ⟨rfl, hM⟩; replace hS := hS.mod hM; clear hM hFq hFr hFs; (simp only [Hp.out])) | (go_at_call 82; refine (spec_in _ _ _ _).mono ?_; rintro e w' ⟨rfl, rfl⟩; (simp only [Hi.out])) | ((with_reducible show wpList _ _ _ (⟨_, Op.box _ _, _, _, _, _⟩ :: _) _ _); refine Does.list (does_box hS rfl rfl (by rfl)) rfl ?_; clear hS; rintro _ wx ⟨bo, rfl, hS, _⟩; (simp only [Act.put, List.setIfInBounds_toArray, List.set_cons_zero, List.set_cons_succ])) | ((with_reducible show wpList _ _ _ (⟨_, Op.load _ _, _, _, _, _⟩ :: _) _ _); (first | refine Gives.list (f_load hS rfl rfl (by rfl)) rfl ?_ | refine Gives.list (f_loadS hS rfl rfl (by rfl)) rfl ?_ | refine Gives.list (f_loadAt hS rfl rfl) rfl ?_ | refine Gives.list (f_loadAtS hS rfl rfl (by rfl)) rfl ?_ | refine Gives.list (f_loadAtF hS rfl rfl (by rfl)) rfl ?_); (simp only [Act.put, List.setIfInBounds_toArray, List.set_cons_zero, List.set_cons_succ])) | ((with_reducible show wpList _ _ _ (⟨_, Op.alloc _, _, _, _, _⟩ :: _) _ _); refine Does.list (does_alloc hS rfl (by rfl)) rfl ?_; clear hS; rintro _ wx ⟨ba, rfl, hS, _⟩; (simp only [Act.put, List.setIfInBounds_toArray, List.set_cons_zero, List.set_cons_succ])))
    go_loopw [7] (fun i wr => ∃ k : Nat, i = .int .i64 k ∧ rows.length ≤ k ∧ k ≤ rows.length ∧ Hid (∀ (j : Nat) (hj : j < real.length), rows.length ≤ j → j < k → real[j] = false) ∧ Sat w wr [.box ba [.slice none 0 0, .slice none 0 0, .slice none 0 0], .box bo [.slice A1 ns.length c1, .slice A2 rows.length c2, .slice A3 real.length c3], .ro Rep.str.slice [.slice A1 ns.length c1] ns, .ro Rep.int.slice.slice [.slice A2 rows.length c2] rows, .ro Rep.bool.slice [.slice A3 real.length c3] real]) (fun i _ => rows.length - (intOf i).toNat)
    case atStart => exact ⟨rows.length, rfl, Nat.le_refl _, hMr, Lib.hid (by intro j hj h1 h2; omega), hS⟩
    case round =>
      clear hS
      obtain ⟨k, rfl, hk0, hk1, hz, hS⟩ := hrel
      by_cases hlt : k < rows.length
      · exfalso; omega
      · obtain rfl : k = rows.length := by omega
        have H := Lib.hid (HF.out (any_drop_f (fun j hj h1 => hz.out j hj h1 (by have := Hrl.out; omega))))
        clear HT HF
        go_wp2_with (first | (go_at_call 97; obtain ⟨Fq, hFq⟩ := hS.has Rep.str.slice [.slice A1 ns.length c1]; obtain ⟨Fr, hFr⟩ := hS.has Rep.int.slice.slice [.slice A2 rows.length c2]; obtain ⟨Fs, hFs⟩ := hS.has Rep.bool.slice [.slice A3 real.length c3]; refine (spec_l8Copy _ A1 A2 A3 c1 c2 c3 Fq Fr Fs ns rows real hFq hFr hFs Hps.out).mono ?_; rintro e w' ⟨cs, rfl, hN⟩; replace hS := hS.fresh hN; clear hN hFq hFr hFs; have hS2 := Sat.openOwnPadded hS; clear hS; obtain ⟨B1, d1, B2, d2, B3, d3, rfl, hS⟩ := hS2; (dsimp only at hS); obtain ⟨Fr, hFr⟩ := hS.has Rep.int.slice.slice [.slice B2 rows.length d2]; obtain ⟨Fs, hFs⟩ := hS.has Rep.bool.slice [.slice B3 real.length d3]; have hcap2 := SliceHas.capLe hFr; have hcap3 := SliceHas.capLe hFs; clear hFr hFs) | ((with_reducible show wpList _ _ _ (⟨_, Op.slice _ _ _ _ _, _, _, _, _⟩ :: _) _ _); (first | refine Gives.list (u := .slice B2 (rows.length) d2) (pure_take (by rfl) (by rfl) (by rfl) (by omega) hcap2 _) rfl ?_ | refine Gives.list (u := .slice B3 (rows.length) d3) (pure_take (by rfl) (by rfl) (by rfl) (by omega) hcap3 _) rfl ?_); (simp only [Act.put, List.setIfInBounds_toArray, List.set_cons_zero, List.set_cons_succ])) | ((with_reducible show wpList _ _ _ (⟨_, Op.store _ _ _, _, _, _, _⟩ :: _) _ _); (first | refine Does.list (f_store (u := .int .i64 _) hS rfl rfl rfl (by rfl) (by rfl)) rfl ?_ | refine Does.list (f_store (u := .slice _ _ _) hS rfl rfl rfl (by rfl) (by rfl)) rfl ?_ | refine Does.list (f_store (u := .string _) hS rfl rfl rfl (by rfl) (by rfl)) rfl ?_ | refine Does.list (f_store (u := .bool _) hS rfl rfl rfl (by rfl) (by rfl)) rfl ?_); clear hS; rintro _ wx ⟨rfl, hS⟩; (simp only [List.set_cons_zero, List.set_cons_succ] at hS); (simp only [Act.put, List.setIfInBounds_toArray, List.set_cons_zero, List.set_cons_succ])) | ((with_reducible show wpList _ _ _ (⟨_, Op.load _ _, _, _, _, _⟩ :: _) _ _); (first | refine Gives.list (f_load hS rfl rfl (by rfl)) rfl ?_ | refine Gives.list (f_loadS hS rfl rfl (by rfl)) rfl ?_ | refine Gives.list (f_loadAt hS rfl rfl) rfl ?_ | refine Gives.list (f_loadAtS hS rfl rfl (by rfl)) rfl ?_ | refine Gives.list (f_loadAtF hS rfl rfl (by rfl)) rfl ?_); (simp only [Act.put, List.setIfInBounds_toArray, List.set_cons_zero, List.set_cons_succ])) | ((with_reducible show wpList _ _ _ (⟨_, Op.store _ _ _, _, _, _, _⟩ :: _) _ _); (first | refine Does.list (f_store hS rfl rfl rfl (by rfl) (by rfl)) rfl ?_ | refine Does.list (f_storeS hS rfl rfl rfl (by rfl) (by rfl) (by rfl)) rfl ?_); clear hS; rintro _ wx ⟨rfl, hS⟩; (simp only [List.set_cons_zero, List.set_cons_succ] at hS); (simp only [Act.put, List.setIfInBounds_toArray, List.set_cons_zero, List.set_cons_succ])) | ((with_reducible show wpList _ _ _ (⟨_, Op.alloc _, _, _, _, _⟩ :: _) _ _); refine Does.list (does_alloc hS rfl (by rfl)) rfl ?_; clear hS; rintro _ wx ⟨ba, rfl, hS, _⟩; (simp only [Act.put, List.setIfInBounds_toArray, List.set_cons_zero, List.set_cons_succ])))
        (try simp only [Exit.inBlock, Exit.then]); refine bodyPost_ret (hS.resultCellTmp rfl rfl (by rfl)) rfl ?_
        exact ret_pb H.out (Sat.cutPadded (hS.sel (Γ' := [.own Rep.bool.rows [.slice B3 real.length d3] real, .own Rep.int.rows.rows [.slice B2 rows.length d2] rows, .own Rep.str.rows [.slice B1 ns.length d1] ns]) [1, 2, 3] rfl (by decide)) hMl hMr).result
end Go.Proofs.YtldknaajnnohiaaDoor
