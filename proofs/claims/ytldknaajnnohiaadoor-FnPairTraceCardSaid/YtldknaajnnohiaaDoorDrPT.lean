/- Draws of pairs: l20Pairs, DrawPairTrace. -/
import Derived.Test.YtldknaajnnohiaaDoorIn
import Derived.Test.YtldknaajnnohiaaDoorIn
import Derived.Test.YtldknaajnnohiaaDoorNtS
import Derived.Test.YtldknaajnnohiaaDoorCutI
import Derived.Test.YtldknaajnnohiaaDoorCopy
import Derived.Test.YtldknaajnnohiaaDoorSatT
import Derived.Deep.DeepCutAuto
namespace Go.Proofs.YtldknaajnnohiaaDoor
open Go.RowKit

instance flatPair : Flat rPair rPair := inferInstanceAs (Flat (Rep.pair Rep.int Rep.int) (Rep.pair Rep.int Rep.int))
theorem I64_w (x : Int) : I64 (IntKind.i64.wrap x) := by
  unfold I64
  simp [IntKind.wrap, IntKind.bits, IntKind.signed]
  omega
theorem pure_drop {P : Program} {o : Oper} {a : Act} {T E : TypeId} {z : Value} {ag : Bool} {A : Option Addr} {n c l sz : Nat} {x lo : Operand} (ho : o.op = .slice T x (some lo) none none) (hx : a.eval x = .slice A n c) (hlo : BoundIs a (some lo) 0 l) (h1 : l ≤ n) (hc : n ≤ c) [hT : SlTy P T E] [hE : Ty P E z sz ag] (w : World) :
    (execOp a.eval o).run P w = .ok (.value (.slice (cutAt A l c sz) (n - l) (c - l))) w := by
  have hr := run_cut (w := w) (A := A) (a := a) hT hE hlo (hi := none) (show BoundIs a none n n from rfl) h1 (Nat.le_refl n) hc
  unfold execOp
  simp only [ho, hx, Sem.run_bind, Option.map_none, Option.map_some] at hr ⊢
  simp only [hr, Result.andThen_ok]
  rfl
theorem pairW_all (w : World) (x y : Int) (hx : I64 x) (hy : I64 y) : (rPair.vec 1).has w [] [.int .i64 x, .int .i64 y] [(x, y)] :=
  ⟨rfl, [], [], [_, _], _, rfl, rfl, rPair_mk hx hy, rfl, rfl⟩
theorem spec_NetworkOf8 (w : World) : Calls Tryd.prog 101 #[.int .i64 8] w fun e w' => ∃ v, e = .returned v ∧ Fresh rPair.rows w w' [v] (netF 8) := spec_NetworkOf w 8 (by decide)
set_option maxHeartbeats 4000000 in
theorem spec_l20Pairs80 (w : World) (br : Nat) (A : Option Addr) (nr cr p : Nat) (hr : Rd br A nr cr p w) (hp : p ≤ 900000000) :
    Calls Tryd.prog 130 #[.pointer (some ⟨br, 0, none⟩), .int .i64 8, .int .i64 0] w fun e w' => ∃ v xs, e = .returned v ∧ xs.length ≤ 60000 ∧ NewIn rPair.rows w w' [v] xs ∧ (∃ p', p' ≤ p + 100 ∧ Rd br A nr cr p' w') ∧ Mod [br] w w' := by
  obtain ⟨code, hl, hS⟩ := hr.enter
  clear hr
  obtain ⟨ys, hys⟩ : ∃ ys, netF 8 = ys := ⟨_, rfl⟩
  have hyl : ys.length ≤ 25000 := by rw [← hys]; exact netF_len (by decide)
  have HY := Lib.hid hys
  clear hys
  go_enter Tryd.func130, Tryd.ntmps130
  go_upto_if 14 with (first | ((with_reducible show wpList _ _ _ (⟨_, Op.buildSlice _ _ _, _, _, _, _⟩ :: _) _ _); refine Does.list (does_buildSlice (X := ?_) (cs := ?_) (E := ?_) hS rfl ?_ ?_) rfl ?_; rotate_left 3; (go_simp; rfl); rfl; clear hS; rintro _ wx ⟨bx, rfl, hS, _⟩; (simp only [Act.put, List.setIfInBounds_toArray, List.set_cons_zero, List.set_cons_succ])) | (go_at_call 67; (with_reducible show Calls _ _ #[_, Value.int IntKind.i64 2] _ _); obtain ⟨hrd, up⟩ := Sat.rdF hS br; refine (spec_pick _ br _ _ _ _ _ hrd (by omega) (by omega)).mono ?_; rintro e w' ⟨⟨x, rfl, hx0, hx1, hx2⟩, hrd2, hM⟩; replace hS := (up _ _ hrd2 hM).1; clear up hrd hrd2 hM; (simp only [List.set_cons_zero, List.set_cons_succ] at hS)))
  rcases (show x = 0 ∨ x = 1 by omega) with hx | hx
  · subst hx
    clear hx0 hx1 hx2
    replace hS := hS.drop
    by_cases hz : 0 < ys.length
    · have hzI : (0 : Int) < (ys.length : Int) := by omega
      go_upto_if 24 with (first | (go_at_call 101; refine (spec_NetworkOf8 _).mono ?_; rintro e w' ⟨v1, rfl, hN⟩; (rw [HY.out] at hN); replace hS := hS.fresh hN; clear hN; obtain ⟨B, d, rfl⟩ := hS.formOwn 0 rfl) | (go_at_call 67; (with_reducible show Calls _ _ #[_, Value.int IntKind.i64 2] _ _); obtain ⟨hrd, up⟩ := Sat.rdF hS br; refine (spec_pick _ br _ _ _ _ _ hrd (by omega) (by omega)).mono ?_; rintro e w' ⟨⟨y, rfl, hy0, hy1, hy2⟩, hrd2, hM⟩; replace hS := (up _ _ hrd2 hM).1; clear up hrd hrd2 hM; (simp only [List.set_cons_zero, List.set_cons_succ] at hS)))
      rcases (show y = 0 ∨ y = 1 by omega) with hy | hy
      · subst hy
        clear hy0 hy1 hy2
        go_upto_region 6 with (first | (go_at_call 67; (with_reducible show Calls _ _ #[_, Value.int IntKind.i64 (ys.length:Int)] _ _); obtain ⟨hrd, up⟩ := Sat.rdF hS br; refine (spec_pick _ br _ _ _ _ _ hrd (by omega) (by omega)).mono ?_; rintro e w' ⟨⟨k, rfl, hk0, hk1, hk2⟩, hrd2, hM⟩; replace hS := (up _ _ hrd2 hM).1; clear up hrd hrd2 hM; (simp only [List.set_cons_zero, List.set_cons_succ] at hS)))
        obtain ⟨k0, rfl⟩ : ∃ n : Nat, k = (n : Int) := ⟨k.toNat, by omega⟩
        have hkl : k0 < ys.length := by omega
        obtain ⟨k1, hk1⟩ : ∃ n, k0 + 1 = n := ⟨_, rfl⟩
        have hw1 : IntKind.i64.wrap ((k0 : Int) + 1) = (k1 : Int) := by rw [IntWalk.i64_in _ (by omega)]; omega
        have hk1l : k1 ≤ ys.length := by omega
        clear hk0 hk2 hk1
        replace hS := Sat.still (e' := rPair.slice) hS
        have hcd : ys.length ≤ d := by
          obtain ⟨Fq, hFq⟩ := hS.has rPair.slice [.slice B ys.length d]
          exact SliceHas.capLe hFq
        have hS3 := Sat.cutRo (l := k1) (h := ys.length) hS 0 rfl hk1l (Nat.le_refl _)
        replace hS := Sat.takeRo (e := rPair) (h := k0) hS3 1 rfl (by omega)
        clear hS3
        have hS4 : Sat (bare w) _ [.ro rPair.slice [.slice B k0 d] (ys.take k0), .ro rPair.slice [.slice (cutAt B k1 d 2) (ys.length - k1) (d - k1)] ((ys.take ys.length).drop k1), .ro rPair.slice [.slice B ys.length d] ys, .ro Rep.u8.slice [.slice A nr cr] code, .box br [.slice A nr cr, .int .i64 ((p + 1 + 1 + 1 : Nat) : Int)], .ro (Rep.frame w [br]) [] ()] := hS
        clear hS
        have hS := hS4
        clear hS4
        have hb1 : k0 ≤ 25000 := by omega
        have hb2 : ys.length - k1 ≤ 25000 := by omega
        go_wp2_with (first | ((with_reducible show Code.wp _ (Code.region 6 _ true) _ _ _); refine wp_region_drawn [(1, 0), (2, 0), (3, 0), (5, 0), (6, 0), (7, 0), (8, 0), (0, 2), (4, 3), (9, 3), (10, 0)] (by kernel_rfl) (by kernel_rfl) (by intro _ _ dq _ _ hq; cases dq <;> exact hq) ?_; replace hS := hS.mod (Mod.drew (Mod.refl _ _)); (generalize hwd : World.drew _ = wz at hS ⊢); clear hwd) | ((with_reducible show wpD _ _ _ ((3, 0) :: _) _ _); refine D_pure (v := .slice B k0 d) rfl rfl (fun wq => pure_take (by rfl) (by rfl) (by rfl) (by omega) hcd wq) ?_; (first | show wpD _ _ _ _ (Act.put _ (some _) _) _ | show wpD _ _ _ _ (Act.put _ none _) _); (simp only [Act.put, List.setIfInBounds_toArray, List.set_cons_zero, List.set_cons_succ])) | ((with_reducible show wpD _ _ _ ((8, 0) :: _) _ _); refine D_pure (v := .slice (cutAt B k1 d 2) (ys.length - k1) (d - k1)) rfl rfl (fun wq => pure_drop (by rfl) (by rfl) (by rfl) (by omega) hcd wq) ?_; (first | show wpD _ _ _ _ (Act.put _ (some _) _) _ | show wpD _ _ _ _ (Act.put _ none _) _); (simp only [Act.put, List.setIfInBounds_toArray, List.set_cons_zero, List.set_cons_succ])) | ((with_reducible show wpD _ _ _ ((0, 2) :: _) _ _); (first | ((with_reducible show wpD _ _ _ ((_, 2) :: _) _ _); ((refine D_calm rfl rfl (does_buildSlice (X := ?_) (cs := ?_) (E := ?_) hS rfl ?_ ?_) ?_); rotate_left 3; (go_simp; rfl); rfl; clear hS; rintro _ wx ⟨bx, rfl, hS, hM⟩; refine ⟨hM, ?_⟩; clear hM; (first | show wpD _ _ _ _ (Act.put _ (some _) _) _ | show wpD _ _ _ _ (Act.put _ none _) _); (simp only [Act.put, List.setIfInBounds_toArray, List.set_cons_zero, List.set_cons_succ])))); replace hS := (Sat.vec0 rPair hS).lit (Nat.zero_le _)) | ((with_reducible show wpD _ _ _ ((4, 3) :: _) _ _); refine D_loud rfl rfl (f_appendFlat rPair rPair hS rfl rfl rfl rfl rfl rfl (by decide) (by omega)) ?_; clear hS; rintro _ wx ⟨A8, c8, rfl, hS⟩; (simp only [List.set_cons_zero, List.set_cons_succ] at hS); (first | show wpD _ _ _ _ (Act.put _ (some _) _) _ | show wpD _ _ _ _ (Act.put _ none _) _); (simp only [Act.put, List.setIfInBounds_toArray, List.set_cons_zero, List.set_cons_succ]); (simp only [Nat.zero_add, List.nil_append] at hS ⊢)) | ((with_reducible show wpD _ _ _ ((9, 3) :: _) _ _); refine D_loud rfl rfl (f_appendFlat rPair rPair hS rfl rfl rfl rfl rfl rfl (by decide) (by omega)) ?_; clear hS; rintro _ wx ⟨A9, c9, rfl, hS⟩; (simp only [List.set_cons_zero, List.set_cons_succ] at hS); (first | show wpD _ _ _ _ (Act.put _ (some _) _) _ | show wpD _ _ _ _ (Act.put _ none _) _); (simp only [Act.put, List.setIfInBounds_toArray, List.set_cons_zero, List.set_cons_succ])) | ((with_reducible show wpD _ _ _ [] _ _); refine D_nil ?_) | ((with_reducible show wpD _ _ _ ((_, 0) :: _) _ _); (first | (refine D_skip rfl rfl ?_; (first | show wpD _ _ _ _ (Act.put _ (some _) _) _ | show wpD _ _ _ _ (Act.put _ none _) _); (simp only [Act.put, List.setIfInBounds_toArray, List.set_cons_zero, List.set_cons_succ])) | (refine D_pure (v := ?_) rfl rfl (fun wq => ?_) ?_; rotate_left 1; (show (Sem.run _ (execOp _ (Oper.mk _ _ _ _ _ _)) _) = _; go_simp; (try go_bits); with_reducible rfl); (first | show wpD _ _ _ _ (Act.put _ (some _) _) _ | show wpD _ _ _ _ (Act.put _ none _) _); (simp only [Act.put, List.setIfInBounds_toArray, List.set_cons_zero, List.set_cons_succ])))))
        go_ret
        obtain ⟨h1, h2, h3⟩ := Sat.exitNew (Γ := [.ro Rep.u8.slice [.slice A nr cr] code]) (hS.sel [0, 5, 6, 4] rfl (by decide))
        exact ⟨_, _, rfl, by rw [List.length_append, List.length_take, List.length_drop, List.length_take]; omega, h1, ⟨p + 1 + 1 + 1, by omega, h2, (hS.rdUp (i := 5) (j := 4) rfl rfl).1.2⟩, h3⟩
      · subst hy
        clear hy0 hy1 hy2
        go_wp2_with (first | ((with_reducible show wpList _ _ _ (⟨_, Op.box _ _, _, _, _, _⟩ :: _) _ _); refine Does.list (does_box hS rfl rfl (by rfl)) rfl ?_; clear hS; rintro _ wx ⟨bo, rfl, hS, _⟩; (simp only [Act.put, List.setIfInBounds_toArray, List.set_cons_zero, List.set_cons_succ])))
        go_ret
        obtain ⟨h1, h2, h3⟩ := Sat.exitNew (Γ := [.ro Rep.u8.slice [.slice A nr cr] code]) (hS.sel [0, 2, 3, 1] rfl (by decide))
        exact ⟨_, _, rfl, by omega, h1, ⟨p + 1 + 1, by omega, h2, (hS.rdUp (i := 2) (j := 1) rfl rfl).1.2⟩, h3⟩
    · have hzI : ¬ (0 : Int) < (ys.length : Int) := by omega
      go_wp2_with (first | (go_at_call 101; refine (spec_NetworkOf8 _).mono ?_; rintro e w' ⟨v1, rfl, hN⟩; (rw [HY.out] at hN); replace hS := hS.fresh hN; clear hN; obtain ⟨B, d, rfl⟩ := hS.formOwn 0 rfl))
      go_ret
      obtain ⟨h1, h2, h3⟩ := Sat.exitNew (Γ := [.ro Rep.u8.slice [.slice A nr cr] code]) (hS.sel [0, 2, 3, 1] rfl (by decide))
      exact ⟨_, _, rfl, by omega, h1, ⟨p + 1, by omega, h2, (hS.rdUp (i := 2) (j := 1) rfl rfl).1.2⟩, h3⟩
  · subst hx
    clear hx0 hx1 hx2
    go_wp2_with (first | (go_at_call 67; (with_reducible show Calls _ _ #[_, Value.int IntKind.i64 9] _ _); obtain ⟨hrd, up⟩ := Sat.rdF hS br; refine (spec_pick _ br _ _ _ _ _ hrd (by omega) (by omega)).mono ?_; rintro e w' ⟨⟨k, rfl, hk0, hk1, hk2⟩, hrd2, hM⟩; replace hS := (up _ _ hrd2 hM).1; clear up hrd hrd2 hM; (simp only [List.set_cons_zero, List.set_cons_succ] at hS)))
    obtain ⟨k0, rfl⟩ : ∃ n : Nat, k = (n : Int) := ⟨k.toNat, by omega⟩
    have hk8 : k0 ≤ 8 := by omega
    clear hk0 hk1 hk2
    replace hS := (Sat.vec0 rPair hS).lit (Nat.zero_le _)
    go_loopw [9, 7] (fun i s wr => ∃ (k : Nat) (xs : List PairD) (B : Option Addr) (d p2 : Nat), i = .int .i64 k ∧ s = .slice B xs.length d ∧ k + xs.length ≤ 8 ∧ p2 ≤ p + 2 + 2 * xs.length ∧ Sat (bare w) wr [.own rPair.rows [.slice B xs.length d] xs, .ro Rep.u8.slice [.slice A nr cr] code, .box br [.slice A nr cr, .int .i64 ((p2 : Nat) : Int)], .ro (Rep.frame w [br]) [] ()]) (fun i _ _ => (intOf i).toNat)
    case atStart => exact ⟨k0, [], _, _, p + 1 + 1, rfl, rfl, by simpa using hk8, by simp, hS.sel [0, 1, 2, 3] rfl (by decide)⟩
    case round =>
      clear hS
      obtain ⟨k, xs, B, d, p2, rfl, rfl, hkx, hpx, hS⟩ := hrel
      by_cases hk : k = 0
      · subst hk
        go_wp2_with (first | (go_at_call 66; obtain ⟨hrd, up⟩ := Sat.rdF hS br; refine (spec_odd _ br _ _ _ _ _ hrd (by omega) (by omega) (by omega)).mono ?_; rintro e w' ⟨⟨ob, rfl, hob⟩, ⟨p3, hp3, hrd2⟩, hM⟩; obtain rfl := hob rfl; replace hS := (up _ _ hrd2 hM).1; clear up hrd hrd2 hM hob; (simp only [List.set_cons_zero, List.set_cons_succ] at hS)))
        go_ret
        obtain ⟨h1, h2, h3⟩ := Sat.exitNew (Γ := [.ro Rep.u8.slice [.slice A nr cr] code]) (hS.sel [0, 2, 3, 1] rfl (by decide))
        exact ⟨_, xs, rfl, by omega, h1, ⟨p3, by omega, h2, (hS.rdUp (i := 2) (j := 1) rfl rfl).1.2⟩, h3⟩
      · have hkI : (0 : Int) < (k : Int) := by omega
        have hkw : IntKind.i64.wrap ((k : Int) - 1) = ((k - 1 : Nat) : Int) := by rw [IntWalk.i64_in _ (by omega)]; omega
        go_upto_region 12 with (first | (go_at_call 67; (with_reducible show Calls _ _ #[_, Value.int IntKind.i64 7] _ _); obtain ⟨hrd, up⟩ := Sat.rdF hS br; refine (spec_pick _ br _ _ _ _ _ hrd (by omega) (by omega)).mono ?_; rintro e w' ⟨⟨a, rfl, ha0, ha1, ha2⟩, hrd2, hM⟩; replace hS := (up _ _ hrd2 hM).1; clear up hrd hrd2 hM; (simp only [List.set_cons_zero, List.set_cons_succ] at hS)))
        have haw : IntKind.i64.wrap (7 - a) = 7 - a := IntWalk.i64_in _ (by omega)
        go_wp2_with (first | (go_at_call 67; (with_reducible show Calls _ _ #[_, Value.int IntKind.i64 (7-a)] _ _); obtain ⟨hrd, up⟩ := Sat.rdF hS br; refine (spec_pick _ br _ _ _ _ _ hrd (by omega) (by omega)).mono ?_; rintro e w' ⟨⟨c, rfl, hc0, hc1, hc2⟩, hrd2, hM⟩; replace hS := (up _ _ hrd2 hM).1; clear up hrd hrd2 hM; (simp only [List.set_cons_zero, List.set_cons_succ] at hS)) | ((with_reducible show wpList _ _ _ (⟨_, Op.call { callee := Callee.builtin Builtin.append, args := _, argTypes := _ }, _, _, _, _⟩ :: _) _ _); refine Does.list (f_append rPair (hS.flat (pairW_all _ _ _ (by unfold I64; omega) (by unfold I64; omega))) rfl rfl rfl rfl rfl (by decide) (by omega)) rfl ?_; clear hS; rintro _ wx ⟨A2, c2, rfl, hS⟩; (simp only [List.set_cons_zero, List.set_cons_succ] at hS); (simp only [Act.put, List.setIfInBounds_toArray, List.set_cons_zero, List.set_cons_succ])) | ((with_reducible show wpList _ _ _ (⟨_, Op.buildSlice _ _ _, _, _, _, _⟩ :: _) _ _); refine Does.list (does_buildSlice (X := ?_) (cs := ?_) (E := ?_) hS rfl ?_ ?_) rfl ?_; rotate_left 3; (go_simp; rfl); rfl; clear hS; rintro _ wx ⟨bx, rfl, hS, _⟩; (simp only [Act.put, List.setIfInBounds_toArray, List.set_cons_zero, List.set_cons_succ])))
        go_roundw
        case rel => exact ⟨k - 1, xs ++ [_], A2, c2, p2 + 1 + 1, by first | rfl | (congr 1; omega), by rw [List.length_append]; rfl, by rw [List.length_append]; simp; omega, by rw [List.length_append]; simp; omega, by rw [List.length_append]; exact hS.sel [0, 1, 2, 3] rfl (by decide)⟩
        case measure => simp [intOf]; omega
def get5 (q : Nat) : Int := match q with
  | 0 => 0
  | 1 => 1
  | 2 => 2
  | 3 => 3
  | _ => -1
theorem get5_get {q : Nat} (h : q < 5) : ([.int .i64 0, .int .i64 1, .int .i64 2, .int .i64 3, .int .i64 (-1)] : List Value)[q]? = some (.int .i64 (get5 q)) := by
  rcases (show q = 0 ∨ q = 1 ∨ q = 2 ∨ q = 3 ∨ q = 4 by omega) with rfl | rfl | rfl | rfl | rfl <;> rfl
theorem get5_bd (q : Nat) : -1 ≤ get5 q ∧ get5 q ≤ 3 := by
  unfold get5
  split <;> omega
set_option maxHeartbeats 4000000 in
set_option maxRecDepth 8000 in
theorem spec_DrawPairTrace (w : World) (F : List Nat) (v : Value) (code : List UInt8) (hx : SliceHas Rep.u8 w F [v] code) :
    Calls Tryd.prog 57 #[v] w fun e w' => ∃ (region : Int) (v1 : Value) (xs : List PairD), e = .returned (.tuple #[.int .i64 region, v1]) ∧ (-1 ≤ region ∧ region ≤ 3) ∧ xs.length ≤ 60000 ∧ Fresh rPair.rows w w' [v1] xs := by
  obtain ⟨A, c, rfl, hl, _⟩ := hx.form'
  have hS : Sat w w [.ro Rep.u8.slice [.slice A code.length c] code] := (Sat.nil w).arg hx
  clear hx
  go_enter Tryd.func57, Tryd.ntmps57
  go_wp2_with (first | (go_at_call 63; refine (spec_l20Open hS (i := 0) rfl).mono ?_; clear hS; rintro e w' ⟨br, Ar, nr, cr, cd, rfl, hS⟩) | ((with_reducible show Code.wp _ (Code.region 2 _ true) _ _ _); refine wp_region_treeGC (G := [br]) (.br [(1, 0), (5, 0)] 0 2 (.lin [(2, 2), (3, 0), (4, 1), (6, 2), (7, 0), (8, 0)]) 2 2 (.br [] 0 2 (.lin [(3, 0), (4, 1), (6, 2), (7, 0), (8, 0)]) 6 2 (.lin [(0, 2), (3, 0), (4, 1), (7, 0), (8, 0)]))) (by kernel_rfl) (by kernel_rfl) (by intro _ _ dq _ _ hq; cases dq <;> exact hq) ?_; replace hS := hS.mod (Mod.drew (Mod.refl _ _)); (generalize hwd : World.drew _ = wz at hS ⊢); clear hwd) | (with_reducible refine GM_br ?_) | (with_reducible refine GM_lin ?_) | (with_reducible refine GM_and ?_ ?_) | (with_reducible refine GM_ord ?_) | ((with_reducible show wpG _ _ _ _ [] _ _); refine G_nil ?_) | ((with_reducible show wpG _ _ _ _ ((2, 2) :: _) _ _); ((with_reducible show wpG _ _ _ _ ((_, 2) :: _) _ _); (refine G_call (f := 67) (args := ?_) rfl rfl ?_ ?_); rotate_left 1; (show (Sem.run _ (execOp _ (Oper.mk _ _ _ _ _ _)) _) = _; go_simp; rfl); (with_reducible show Calls _ _ #[_, Value.int IntKind.i64 5] _ _); obtain ⟨hrd, up⟩ := Sat.rdF hS br; refine (spec_pick _ br _ _ _ _ _ hrd (by omega) (by omega)).mono ?_; rintro e w' ⟨⟨x5, rfl, hx50, hx51, hx52⟩, hrd2, hM⟩; replace hS := (up _ _ hrd2 hM).1; clear up hrd hrd2; (simp only [List.set_cons_zero, List.set_cons_succ] at hS); refine ⟨_, rfl, hM.mono (by simp), ?_⟩; clear hM; (first | show wpG _ _ _ _ _ (Act.put _ (some _) _) _ | show wpG _ _ _ _ _ (Act.put _ none _) _); (simp only [Act.put, List.setIfInBounds_toArray, List.set_cons_zero, List.set_cons_succ])); obtain ⟨q5, rfl⟩ : ∃ n : Nat, x5 = (n : Int) := ⟨x5.toNat, (by omega)⟩; have hq5 : q5 < 5 := (by omega); have hq5I : (q5 : Int) < 5 := (by omega); have H5 := Lib.hid (get5_get hq5)) | ((with_reducible show wpG _ _ _ _ ((4, 1) :: _) _ _); refine G_load rfl rfl (fun x hx => f_loadG hS hx rfl rfl (by decide) H5.out) ?_; (first | show wpG _ _ _ _ _ (Act.put _ (some _) _) _ | show wpG _ _ _ _ _ (Act.put _ none _) _); (simp only [Act.put, List.setIfInBounds_toArray, List.set_cons_zero, List.set_cons_succ])) | ((with_reducible show wpG _ _ _ _ ((6, 2) :: _) _ _); ((with_reducible show wpG _ _ _ _ ((_, 2) :: _) _ _); (refine G_call (f := 130) (args := ?_) rfl rfl ?_ ?_); rotate_left 1; (show (Sem.run _ (execOp _ (Oper.mk _ _ _ _ _ _)) _) = _; go_simp; rfl); obtain ⟨hrd, up⟩ := Sat.rdF hS br; refine (spec_l20Pairs80 _ br _ _ _ _ hrd (by omega)).mono ?_; rintro e w' ⟨v1, xs, rfl, hxl, hN, ⟨p4, hp4, hrd2⟩, hM⟩; replace hS := (up _ _ hrd2 hM).2 _ _ _ hN; clear up hrd hrd2 hN; (simp only [List.set_cons_zero, List.set_cons_succ] at hS); refine ⟨_, rfl, hM.mono (by simp), ?_⟩; clear hM; (first | show wpG _ _ _ _ _ (Act.put _ (some _) _) _ | show wpG _ _ _ _ _ (Act.put _ none _) _); (simp only [Act.put, List.setIfInBounds_toArray, List.set_cons_zero, List.set_cons_succ]))) | ((with_reducible show wpG _ _ _ _ ((_, 2) :: _) _ _); ((refine G_calm rfl rfl (does_buildSlice (X := ?_) (cs := ?_) (E := ?_) hS rfl ?_ ?_) ?_); rotate_left 3; (go_simp; rfl); rfl; clear hS; rintro _ wx ⟨bx, rfl, hS, hM⟩; refine ⟨hM.mono (by simp), ?_⟩; clear hM; (first | show wpG _ _ _ _ _ (Act.put _ (some _) _) _ | show wpG _ _ _ _ _ (Act.put _ none _) _); (simp only [Act.put, List.setIfInBounds_toArray, List.set_cons_zero, List.set_cons_succ]))) | ((with_reducible show wpG _ _ _ _ ((_, 0) :: _) _ _); (first | (refine G_skip rfl rfl ?_; (first | show wpG _ _ _ _ _ (Act.put _ (some _) _) _ | show wpG _ _ _ _ _ (Act.put _ none _) _); (simp only [Act.put, List.setIfInBounds_toArray, List.set_cons_zero, List.set_cons_succ])) | (refine G_pure (v := ?_) rfl rfl (fun wq => ?_) ?_; rotate_left 1; (show (Sem.run _ (execOp _ (Oper.mk _ _ _ _ _ _)) _) = _; go_simp; (try go_bits); with_reducible rfl); (first | show wpG _ _ _ _ _ (Act.put _ (some _) _) _ | show wpG _ _ _ _ _ (Act.put _ none _) _); (simp only [Act.put, List.setIfInBounds_toArray, List.set_cons_zero, List.set_cons_succ])))))
  all_goals
    go_ret2
    first
    | exact ⟨_, _, _, rfl, get5_bd _, hxl, hS.result⟩
    | exact ⟨_, _, _, rfl, get5_bd _, hxl, (hS.pull 1 rfl).result⟩
end Go.Proofs.YtldknaajnnohiaaDoor
