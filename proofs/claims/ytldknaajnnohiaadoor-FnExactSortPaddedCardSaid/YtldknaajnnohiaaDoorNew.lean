/- append to an empty row without room: nothing that is there is written. No function of the program occurs here. -/
import Derived.Test.YtldknaajnnohiaaDoorFind
namespace Go.Proofs.YtldknaajnnohiaaDoor
open Go.RowKit

section
variable {P : Program} {w w0 : World} {Γ : List Fact} {T E : TypeId} {z : Value} {by_ : Nat} {ag : Bool} {α : Type} {e : Rep α} {o : Oper} {a : Act}
theorem run_append_new (hS : SlTy P T E) (hT : Ty P E z e.size ag) (hB : ByTy P E by_) {b : Nat}
    {x : Value} {tx ty : TypeId} {m : Nat} {news : List Value} {ys : List α} {G : List Nat} (hsrc : Src P e.size tx x m news w) (hall : e.all w G news ys) (hys : ys.length = m) (hGd : Good w G)
    (h30 : m ≤ 1073741824) (hby : by_ ≤ 100000) (hzs : z.cells.size = e.size) (hm : 0 < m) :
    ∃ A' c' w' F', (Builtin.append_ #[T, tx] ty #[.slice (some ⟨b, 0, none⟩) 0 0, x]).run P w = .ok (.slice A' m c') w' ∧ RowHas e w' F' [.slice A' m c'] ys ∧ Good w' F' ∧ (∀ g ∈ F', g ∈ G ∨ w.heap.size ≤ g) ∧ Mod [] w w' := by
  have ht := hS.und
  obtain ⟨i, d, hi, hiz, his, _, _⟩ := hT.parts
  have hib : i.bytes = by_ := by have := hB.bytes; rw [hi] at this; simpa using this
  have hbb : (0 + m) * i.bytes ≤ 140737488355328 := by
    have := Nat.mul_le_mul h30 hby
    rw [hib, Nat.zero_add]; omega
  have hnl : news.length = m * e.size := hsrc.newsLen
  have hold : (Builtin.firstCells i.size 0 (.slice (some ⟨b, 0, none⟩) 0 0)).run P w.drew = .ok ([] : List Value).toArray w.drew := run_firstCells_some w.drew i.size 0 ⟨b, 0, none⟩ 0 0 [] (by simp) (by intro j u hj; simp at hj)
  have hr := run_append_grow_src (P := P) w T tx ty E i z ht hi hiz (some ⟨b, 0, none⟩) 0 0 [] hold x m news (his ▸ hsrc) (by omega) (by omega) (growslice_fits (by omega) hbb)
  have hge := grownCap_ge w (0 + m) 0 E
  have hcm : grownCap w (0 + m) 0 E ≤ maxLen := grownCap_le_maxLen w (0 + m) 0 E (by unfold maxLen; omega)
  have hnew : (w.drew.alloc (.cells (([] ++ news).toArray ++ Builtin.zeroCells z.cells (grownCap w (0 + m) 0 E - (0 + m))) E)).heap[w.heap.size]? = some (.cells (([] ++ news).toArray ++ Builtin.zeroCells z.cells (grownCap w (0 + m) 0 E - (0 + m))) E (0, 0)) := heap_alloc_new w.drew _
  have hall' : e.all (w.drew.alloc (.cells (([] ++ news).toArray ++ Builtin.zeroCells z.cells (grownCap w (0 + m) 0 E - (0 + m))) E)) G ([] ++ news) ys :=
    Rep.all_keep hall (fun g hg => Below.heap_alloc w.drew _ g (hGd.lt g hg))
  simp only [Nat.zero_add] at hr hge hcm hnew hall'
  refine ⟨_, _, _, w.heap.size :: G, hr, .inr ⟨w.heap.size, 0, _, _, E, [] ++ news, G, by rw [hys], rfl, hnew, by omega, hcm, ?_, hall', ?_⟩, ?_, ?_, ?_⟩
  · simp only [Array.size_append, List.size_toArray, size_zeroCells, List.nil_append, hnl, hzs, ← Nat.add_mul]
    rw [Nat.zero_add]
    exact Nat.le_of_eq (by congr 1; omega)
  · rw [List.drop_zero, Array.toList_append, List.toList_toArray, List.take_left]
  · exact (show Good w.drew G from hGd).cons _ _
  · intro g hg
    simp only [List.mem_cons] at hg
    rcases hg with rfl | h
    · exact .inr (Nat.le_refl _)
    · exact .inl h
  · exact ((Mod.refl [] w).drew).alloc _
theorem does_appendNew {s x : Operand} {T : TypeId} {A2 : Option Addr} {b m c2 sz : Nat} {ys : List α} (hS : Sat w0 w (.box b [] :: Γ)) (e' : Rep α) [hf : Flat e' e] [hy : HasIn Γ e'.slice [.slice A2 m c2] ys] (hs' : e'.size = e.size)
    (ho : o.op = .call { callee := .builtin .append, args := #[s, x], argTypes := #[T, T] }) (hs : a.eval s = .slice (some ⟨b, 0, none⟩) 0 0) (hx : a.eval x = .slice A2 m c2)
    [hT : SlTy P T E] [hE : Ty P E z sz ag] [hB : ByTy P E by_] (hsz : sz = e.size) (hzs : z.cells.size = sz) (hby : by_ ≤ 100000) (h30 : m ≤ 1073741824) :
    Does P o a w (fun v w' => ∃ A' c', v = .slice A' m c' ∧ Sat w0 w' (.own e.rows [.slice A' m c'] ys :: Γ) ∧ Mod [] w w') := by
  subst hsz
  obtain ⟨F, hy⟩ := hy.has hS.drop
  have hn := SliceHas.n hy
  obtain ⟨news, hsrc, hall⟩ := src_flat (e := e) hT hy hs'
  by_cases hm : m = 0
  · subst hm
    have hy0 : ys = [] := List.eq_nil_of_length_eq_zero hn
    subst hy0
    have hnw : news = [] := List.eq_nil_of_length_eq_zero (by have := hsrc.newsLen; omega)
    subst hnw
    obtain ⟨i, d, hi, hiz, his, _, _⟩ := hE.parts
    have hr := run_append_room_src (P := P) w T T o.type E i hT.und hi b 0 0 0 (.slice A2 0 c2) 0 [] (his ▸ hsrc) (Nat.le_refl _) (fun j hj => by simp at hj) (fun j hj => by simp at hj)
    exact ⟨_, w, ⟨_, _, rfl, (Sat.vec0 e hS).lit (Nat.zero_le _), Mod.refl _ _⟩, .inl (run_append_exec ho hs hx hr)⟩
  · obtain ⟨A', c', w', F', hr, hrow, hgood, hin, hmod⟩ := run_append_new (ty := o.type) hT hE hB (b := b) hsrc hall hn (Good.nil w) h30 hby hzs (by omega)
    exact ⟨_, w', ⟨A', c', rfl, hS.drop.fresh ⟨F', hrow, hgood, fun g hg => (hin g hg).resolve_left (by simp), hmod⟩, hmod⟩, .inl (run_append_exec ho hs hx hr)⟩
end
end Go.Proofs.YtldknaajnnohiaaDoor
