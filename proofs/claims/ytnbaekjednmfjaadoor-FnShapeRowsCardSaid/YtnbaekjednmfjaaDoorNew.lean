/- append to an empty row without room: nothing that is there is written. No function of the program occurs here. -/
import Derived.Test.YtnbaekjednmfjaaDoorFind
import Derived.Test.YtnbaekjednmfjaaDoorTys
import Derived.Test.YtnbaekjednmfjaaDoorSatT
section
namespace Go.Proofs.YtnbaekjednmfjaaDoor
open Go.RowKit

section
variable {P : Program} {w w0 : World} {Γ : List Fact} {T E : TypeId} {z : Value} {by_ : Nat} {ag : Bool} {α : Type} {e : Rep α} {o : Oper} {a : Act}
theorem run_append_new (hS : SlTy P T E) (hT : Ty P E z e.size ag) (hB : ByTy P E by_) {b : Nat}
    {x : Value} {tx ty : TypeId} {m : Nat} {news : List Value} {ys : List α} {G : List Nat} (hsrc : Src P e.size tx x m news w) (hall : e.all w G news ys) (hys : ys.length = m) (hGd : Good w G)
    (h30 : m ≤ 1073741824) (hby : by_ ≤ 100000) (hzs : z.cells.size = e.size) (hm : 0 < m) :
    ∃ A' c' w' F', (Builtin.append_ #[T, tx] ty #[.slice (some ⟨b, 0, none⟩) 0 0, x]).run P w = .ok (.slice A' m c') w' ∧ RowHas e w' F' [.slice A' m c'] ys ∧ Good w' F' ∧ (∀ g ∈ F', g ∈ G ∨ w.heap.size ≤ g) ∧ Mod [] w w' := by
  have ht := hS.und
  obtain ⟨i, d, hi, hiz, his, _, _⟩ := hT.parts
  have hib : i.bytes = by_ := by have := hB.bytes; rw [hi] at this; simpa using this
  have hbb : (0 + m) * i.bytes ≤ 140737488355328 := by
    have := Nat.mul_le_mul h30 hby
    rw [hib, Nat.zero_add]; omega
  have hnl : news.length = m * e.size := hsrc.newsLen
  have hold : (Builtin.firstCells i.size 0 (.slice (some ⟨b, 0, none⟩) 0 0)).run P w.drew = .ok ([] : List Value).toArray w.drew := run_firstCells_some w.drew i.size 0 ⟨b, 0, none⟩ 0 0 [] (by simp) (by intro j u hj; simp at hj)
  have hr := run_append_grow_src (P := P) w T tx ty E i z ht hi hiz (some ⟨b, 0, none⟩) 0 0 [] hold x m news (his ▸ hsrc) (by omega) (by omega) (growslice_fits (by omega) hbb)
  have hge := grownCap_ge w (0 + m) 0 E
  have hcm : grownCap w (0 + m) 0 E ≤ maxLen := grownCap_le_maxLen w (0 + m) 0 E (by unfold maxLen; omega)
  have hnew : (w.drew.alloc (.cells (([] ++ news).toArray ++ Builtin.zeroCells z.cells (grownCap w (0 + m) 0 E - (0 + m))) E)).heap[w.heap.size]? = some (.cells (([] ++ news).toArray ++ Builtin.zeroCells z.cells (grownCap w (0 + m) 0 E - (0 + m))) E (0, 0)) := heap_alloc_new w.drew _
  have hall' : e.all (w.drew.alloc (.cells (([] ++ news).toArray ++ Builtin.zeroCells z.cells (grownCap w (0 + m) 0 E - (0 + m))) E)) G ([] ++ news) ys :=
    Rep.all_keep hall (fun g hg => Below.heap_alloc w.drew _ g (hGd.lt g hg))
  simp only [Nat.zero_add] at hr hge hcm hnew hall'
  refine ⟨_, _, _, w.heap.size :: G, hr, .inr ⟨w.heap.size, 0, _, _, E, [] ++ news, G, by rw [hys], rfl, hnew, by omega, hcm, ?_, hall', ?_⟩, ?_, ?_, ?_⟩
  · simp only [Array.size_append, List.size_toArray, size_zeroCells, List.nil_append, hnl, hzs, ← Nat.add_mul]
    rw [Nat.zero_add]
    exact Nat.le_of_eq (by congr 1; omega)
  · rw [List.drop_zero, Array.toList_append, List.toList_toArray, List.take_left]
  · exact (show Good w.drew G from hGd).cons _ _
  · intro g hg
    simp only [List.mem_cons] at hg
    rcases hg with rfl | h
    · exact .inr (Nat.le_refl _)
    · exact .inl h
  · exact ((Mod.refl [] w).drew).alloc _
theorem does_appendNew {s x : Operand} {T : TypeId} {A2 : Option Addr} {b m c2 sz : Nat} {ys : List α} (hS : Sat w0 w (.box b [] :: Γ)) (e' : Rep α) [hf : Flat e' e] [hy : HasIn Γ e'.slice [.slice A2 m c2] ys] (hs' : e'.size = e.size)
    (ho : o.op = .call { callee := .builtin .append, args := #[s, x], argTypes := #[T, T] }) (hs : a.eval s = .slice (some ⟨b, 0, none⟩) 0 0) (hx : a.eval x = .slice A2 m c2)
    [hT : SlTy P T E] [hE : Ty P E z sz ag] [hB : ByTy P E by_] (hsz : sz = e.size) (hzs : z.cells.size = sz) (hby : by_ ≤ 100000) (h30 : m ≤ 1073741824) :
    Does P o a w (fun v w' => ∃ A' c', v = .slice A' m c' ∧ Sat w0 w' (.own e.rows [.slice A' m c'] ys :: Γ) ∧ Mod [] w w') := by
  subst hsz
  obtain ⟨F, hy⟩ := hy.has hS.drop
  have hn := SliceHas.n hy
  obtain ⟨news, hsrc, hall⟩ := src_flat (e := e) hT hy hs'
  by_cases hm : m = 0
  · subst hm
    have hy0 : ys = [] := List.eq_nil_of_length_eq_zero hn
    subst hy0
    have hnw : news = [] := List.eq_nil_of_length_eq_zero (by have := hsrc.newsLen; omega)
    subst hnw
    obtain ⟨i, d, hi, hiz, his, _, _⟩ := hE.parts
    have hr := run_append_room_src (P := P) w T T o.type E i hT.und hi b 0 0 0 (.slice A2 0 c2) 0 [] (his ▸ hsrc) (Nat.le_refl _) (fun j hj => by simp at hj) (fun j hj => by simp at hj)
    exact ⟨_, w, ⟨_, _, rfl, (Sat.vec0 e hS).lit (Nat.zero_le _), Mod.refl _ _⟩, .inl (run_append_exec ho hs hx hr)⟩
  · obtain ⟨A', c', w', F', hr, hrow, hgood, hin, hmod⟩ := run_append_new (ty := o.type) hT hE hB (b := b) hsrc hall hn (Good.nil w) h30 hby hzs (by omega)
    exact ⟨_, w', ⟨A', c', rfl, hS.drop.fresh ⟨F', hrow, hgood, fun g hg => (hin g hg).resolve_left (by simp), hmod⟩, hmod⟩, .inl (run_append_exec ho hs hx hr)⟩
end
end Go.Proofs.YtnbaekjednmfjaaDoor
end

section
namespace Go.Proofs.YtnbaekjednmfjaaDoor
open Go.RowKit

theorem eql_nil {P : Program} (w : World) (t e : TypeId) (a : Option Addr) (n c : Nat) (h : P.underlying t = some (.slice e)) : (binOp .eql t (.slice a n c) (.slice none 0 0)).run P w = .ok (.bool a.isNone) w := by
  simp only [binOp]
  simp [Op.equal, Op.maxDepth, Lib.run_equalIn_slice_nil w 9999 t e a n c 0 0 h]


























end Go.Proofs.YtnbaekjednmfjaaDoor
end

section
namespace Go.Proofs.YtnbaekjednmfjaaDoor
open Go.RowKit

set_option maxHeartbeats 1000000 in
theorem impl_cloneNames' (w : World) (F : List Nat) (v : Value) (ns : List ByteArray) (hx : SliceHas Rep.str w F [v] ns) (hb : ns.length ≤ 1048576) :
    Calls Tryd.prog 16 #[v] w fun e w' => ∃ v', e = .returned v' ∧ Fresh Rep.str.rows w w' [v'] ns := by
  obtain ⟨A, c, rfl, hn, _⟩ := hx.form'
  have hS : Sat w w [.ro Rep.str.slice [.slice A ns.length c] ns] := (Sat.nil w).arg hx
  clear hx
  go_enter Tryd.func16, Tryd.ntmps16
  go_wp2_with (first | ((with_reducible show wpList _ _ _ (⟨_, Op.call { callee := Callee.builtin Builtin.append, args := _, argTypes := _ }, _, _, _, _⟩ :: _) _ _); replace hS := Sat.nilRow Rep.str hS; refine Does.list (f_appendFlat Rep.str Rep.str hS rfl rfl rfl rfl rfl rfl (by decide) (by omega)) rfl ?_; clear hS; rintro _ wx ⟨A2, c2, rfl, hS⟩; (simp only [List.set_cons_zero, List.set_cons_succ] at hS); (simp only [Act.put, List.setIfInBounds_toArray, List.set_cons_zero, List.set_cons_succ]); (simp only [Nat.zero_add, List.nil_append] at hS ⊢)))
  go_ret
  exact ⟨_, rfl, hS.result⟩


































end Go.Proofs.YtnbaekjednmfjaaDoor
end

section
namespace Go.Proofs.YtnbaekjednmfjaaDoor
open Go.RowKit

section
variable {P : Program} {ops : Array Oper} {Q : Exit → Act → World → Prop} {md : Region.Mode} {calm : Nat → Bool}
def waitsP (md : Region.Mode) (ops : Array Oper) : Nat → Nat → Nat → Bool
  | 0, _, _ => false
  | n + 1, j, i => match ops[j]? with
    | none => false
    | some o => o.after.any fun e => Region.binds md e && (e.on == i || (decide (i < e.on) && waitsP md ops n e.on i))
theorem waitsB_of : ∀ (n j i : Nat), waitsP md ops n j i = true → waitsB md ops n j i = true
  | 0, _, _, h => by simp [waitsP] at h
  | n + 1, j, i, h => by
    unfold waitsP at h
    unfold waitsB
    cases ho : ops[j]? with
    | none => rw [ho] at h; cases h
    | some o =>
      rw [ho] at h
      dsimp only at h ⊢
      rw [Array.any_eq_true] at h ⊢
      obtain ⟨k, hk, hb⟩ := h
      refine ⟨k, hk, ?_⟩
      simp only [Bool.and_eq_true, Bool.or_eq_true, decide_eq_true_eq] at hb ⊢
      rcases hb with ⟨h1, h2 | ⟨_, h2⟩⟩
      · exact ⟨h1, .inl h2⟩
      · exact ⟨h1, .inr (waitsB_of n _ _ h2)⟩
def chkD2 (md : Region.Mode) (ops : Array Oper) (calm : Nat → Bool) : List (Nat × Nat) → Array Bool → Bool
  | [], listed => Region.ready md ops listed == []
  | (i, k) :: L, listed =>
    (match k with
     | 0 => Region.free md ops listed i && (Region.ready md ops listed).contains i
     | 1 => Region.free md ops listed i && (Region.ready md ops listed).contains i && (List.range ops.size).all fun j => calm j || listed.getD j false || waitsP md ops ops.size j i
     | 2 => (Region.ready md ops listed == [i]) && calm i
     | _ => (Region.ready md ops listed == [i]) && !calm i) && chkD2 md ops calm L (listed.setIfInBounds i true)
theorem chkD_of : ∀ (L : List (Nat × Nat)) (listed : Array Bool), chkD2 md ops calm L listed = true → chkD md ops calm L listed = true
  | [], _, h => h
  | (i, k) :: L, listed, h => by
    unfold chkD2 at h
    unfold chkD
    rw [Bool.and_eq_true] at h ⊢
    refine ⟨?_, chkD_of L _ h.2⟩
    have h1 := h.1
    match k with
    | 0 => exact h1
    | 1 =>
      have h4 : (Region.free md ops listed i && (Region.ready md ops listed).contains i && (List.range ops.size).all fun j => calm j || listed.getD j false || waitsP md ops ops.size j i) = true := h1
      show (Region.free md ops listed i && (Region.ready md ops listed).contains i && (List.range ops.size).all fun j => calm j || listed.getD j false || waitsB md ops ops.size j i) = true
      rw [Bool.and_eq_true] at h4 ⊢
      refine ⟨h4.1, ?_⟩
      have h2 := h4.2
      rw [List.all_eq_true] at h2 ⊢
      intro j hj
      have h3 := h2 j hj
      simp only [Bool.or_eq_true] at h3 ⊢
      rcases h3 with h3 | h3
      · exact .inl h3
      · exact .inr (waitsB_of _ _ _ h3)
    | 2 => exact h1
    | n + 3 => exact h1
def chkR2 (ops : Array Oper) (L : List (Nat × Nat)) : Bool := Region.noSelect ops && (L.length ≤ ops.size : Bool) && chkD2 .any ops (calmIn L) L (Array.replicate ops.size false)
/-- wp_region_drawn, its check quicker. -/
theorem wp_region_drawnF {id : Nat} {a : Act} {w : World} {l : List Oper} (L : List (Nat × Nat)) (hm : P.follows .mixedOrders = true) (hc : chkR2 l.toArray L = true) (hQ : ∀ c a d v w, Q (.panic c) (Act.put a d v) w → Q (.panic c) a w)
    (h : wpD P l.toArray Q L a w.drew) : (Code.region id l.toArray true).wp P Q a w := by
  refine wp_region_drawn L hm ?_ hQ h
  unfold chkR2 at hc
  unfold chkR
  rw [Bool.and_eq_true] at hc ⊢
  exact ⟨hc.1, chkD_of _ _ hc.2⟩
end
end Go.Proofs.YtnbaekjednmfjaaDoor
end
