/- append, make, element stores: rules of the walk on slices of a call's own. No function of the program occurs here. -/
import Derived.Test.YtnbaekjednmfjaaDoorRow
section
namespace Go.Proofs.YtnbaekjednmfjaaDoor
open Go.RowKit

theorem heap_setCells (g : Nat) (t : TypeId) : ∀ (vs : List Value) (o : Nat) (w : World) (cl : List Value), w.heap[g]? = some (.cells cl.toArray t (0, 0)) → o + vs.length ≤ cl.length →
    (w.setCells g o vs).heap[g]? = some (.cells (cl.take o ++ vs ++ cl.drop (o + vs.length)).toArray t (0, 0))
  | [], o, w, cl, h, hl => by simpa [World.setCells] using h
  | v :: vs, o, w, cl, h, hl => by
    simp only [List.length_cons] at hl
    have h1 : (w.setCell ⟨g, o, none⟩ v).heap[g]? = some (.cells (cl.set o v).toArray t (0, 0)) := by
      rw [World.setCell]
      simp only [Array.getElem?_modify, if_true, h]
      simp
    have h2 := heap_setCells g t vs (o + 1) _ _ h1 (by rw [List.length_set]; omega)
    have e : (cl.set o v).take (o + 1) ++ vs ++ (cl.set o v).drop (o + 1 + vs.length) = cl.take o ++ (v :: vs) ++ cl.drop (o + (v :: vs).length) := by
      rw [List.drop_set_of_lt (by omega), List.take_succ_eq_append_getElem (by rw [List.length_set]; omega), List.getElem_set_self, List.take_set_of_le (Nat.le_refl _)]
      rw [show o + 1 + vs.length = o + (v :: vs).length by rw [List.length_cons]; omega]
      simp only [List.append_assoc, List.cons_append, List.nil_append]
    rw [e] at h2
    exact h2
theorem Mod.setCells {F : List Nat} {w : World} {g : Nat} (hg : g ∈ F) : ∀ (vs : List Value) (o : Nat) {w' : World}, Mod F w w' → Mod F w (w'.setCells g o vs)
  | [], _, _, h => h
  | v :: vs, o, _, h => Mod.setCells hg vs (o + 1) (h.setCell (fun _ => hg) v)

section
variable {P : Program} {w w0 : World} {T E : TypeId} {z : Value} {by_ : Nat} {ag : Bool} {α : Type} {e : Rep α}
/-- append onto a slice of one's own. -/
theorem run_append_rows (hS : SlTy P T E) (hT : Ty P E z e.size ag) (hB : ByTy P E by_)
    {A : Option Addr} {n c : Nat} {xs : List α} {F : List Nat} (hv : RowHas e w F [.slice A n c] xs) (hg : Good w F)
    {x : Value} {tx ty : TypeId} {m : Nat} {news : List Value} {ys : List α} {G : List Nat} (hsrc : Src P e.size tx x m news w) (hall : e.all w G news ys) (hys : ys.length = m) (hGd : Good w G) (hdis : ∀ g ∈ F, g ∉ G)
    (h30 : n + m ≤ 1073741824) (hby : by_ ≤ 100000) (hzs : z.cells.size = e.size) :
    ∃ A' c' w' F', (Builtin.append_ #[T, tx] ty #[.slice A n c, x]).run P w = .ok (.slice A' (n + m) c') w' ∧ RowHas e w' F' [.slice A' (n + m) c'] (xs ++ ys) ∧ Good w' F' ∧ (∀ g ∈ F', g ∈ F ∨ g ∈ G ∨ w.heap.size ≤ g) ∧ Mod F w w' := by
  have ht := hS.und
  obtain ⟨i, d, hi, hiz, his, _, _⟩ := hT.parts
  have hib : i.bytes = by_ := by have := hB.bytes; rw [hi] at this; simpa using this
  have hn := hv.n
  have hlen : (xs ++ ys).length = n + m := by rw [List.length_append, hn, hys]
  have hbb : (n + m) * i.bytes ≤ 140737488355328 := by
    have := Nat.mul_le_mul h30 hby
    rw [hib]; omega
  have hnl : news.length = m * e.size := hsrc.newsLen
  -- a new block
  have grow : ∀ (olds : List Value) (F0 : List Nat), c < n + m → (Builtin.firstCells i.size n (.slice A n c)).run P w.drew = .ok olds.toArray w.drew → e.all w F0 olds xs → Good w F0 → (∀ g ∈ F0, g ∈ F) →
      ∃ A' c' w' F', (Builtin.append_ #[T, tx] ty #[.slice A n c, x]).run P w = .ok (.slice A' (n + m) c') w' ∧ RowHas e w' F' [.slice A' (n + m) c'] (xs ++ ys) ∧ Good w' F' ∧ (∀ g ∈ F', g ∈ F ∨ g ∈ G ∨ w.heap.size ≤ g) ∧ Mod F w w' := by
    intro olds F0 hc hold hallo hg0 hsub
    have hr := run_append_grow_src (P := P) w T tx ty E i z ht hi hiz A n c olds hold x m news (his ▸ hsrc) hc (by omega) (growslice_fits (by omega) hbb)
    have hge := grownCap_ge w (n + m) c E
    have hcm : grownCap w (n + m) c E ≤ maxLen := grownCap_le_maxLen w (n + m) c E (by unfold maxLen; omega)
    have hGood : Good w (F0 ++ G) := hg0.append hGd (fun g hg => hdis g (hsub g hg))
    have hol : olds.length = n * e.size := by rw [Rep.all_len hallo, hn]
    have hnew : (w.drew.alloc (.cells ((olds ++ news).toArray ++ Builtin.zeroCells z.cells (grownCap w (n + m) c E - (n + m))) E)).heap[w.heap.size]? = some (.cells ((olds ++ news).toArray ++ Builtin.zeroCells z.cells (grownCap w (n + m) c E - (n + m))) E (0, 0)) := heap_alloc_new w.drew _
    have hall' : e.all (w.drew.alloc (.cells ((olds ++ news).toArray ++ Builtin.zeroCells z.cells (grownCap w (n + m) c E - (n + m))) E)) (F0 ++ G) (olds ++ news) (xs ++ ys) :=
      Rep.all_keep (Rep.all_append hallo hall) (fun g hg => Below.heap_alloc w.drew _ g (hGood.lt g hg))
    refine ⟨_, _, _, w.heap.size :: (F0 ++ G), hr, .inr ⟨w.heap.size, 0, _, _, E, olds ++ news, F0 ++ G, by rw [hlen], rfl, hnew, by omega, hcm, ?_, hall', ?_⟩, ?_, ?_, ?_⟩
    · simp only [Array.size_append, List.size_toArray, size_zeroCells, List.length_append, hol, hnl, hzs, ← Nat.add_mul]
      rw [Nat.zero_add]
      exact Nat.le_of_eq (by congr 1; omega)
    · rw [List.drop_zero, Array.toList_append, List.toList_toArray, List.take_left]
    · exact (show Good w.drew (F0 ++ G) from hGood).cons _ _
    · intro g hg
      simp only [List.mem_cons, List.mem_append] at hg
      rcases hg with rfl | h | h
      · exact .inr (.inr (Nat.le_refl _))
      · exact .inl (hsub g h)
      · exact .inr (.inl h)
    · exact ((Mod.refl F w).drew).alloc _
  rcases hv with ⟨hv, hxs, hF⟩ | ⟨g, off, cap, cur, t, ces, F', hv, hF, hh, hle, hcm, hsz, hce, htk⟩
  · simp only [List.cons.injEq, Value.slice.injEq, and_true] at hv
    obtain ⟨rfl, rfl, rfl⟩ := hv
    subst hxs
    subst hF
    by_cases hm : m = 0
    · subst hm
      have hy : ys = [] := List.eq_nil_of_length_eq_zero hys
      subst hy
      have hnw : news = [] := List.eq_nil_of_length_eq_zero (by omega)
      subst hnw
      refine ⟨none, 0, w, [], ?_, .inl ⟨rfl, rfl, rfl⟩, Good.nil w, by simp, Mod.refl _ _⟩
      have hc := hsrc.cells
      rcases hsrc.kind with ⟨e', hk⟩ | hk <;> simp [Builtin.append_, run_underlying ht, run_underlying hk, sizeOf, typeInfo, hi, hsrc.len, his, hc]
    · exact grow [] [] (by omega) (by rw [run_firstCells_none]) ⟨rfl, rfl⟩ (Good.nil w) (by simp)
  · simp only [List.cons.injEq, Value.slice.injEq, and_true] at hv
    obtain ⟨rfl, rfl, rfl⟩ := hv
    subst hF
    have hcs : cur.toList.length = cur.size := Array.length_toList
    have hcl := Rep.all_len hce
    have hgF := List.nodup_cons.1 hg.1
    by_cases hroom : xs.length + m ≤ c
    · have hbig : off + xs.length * e.size + news.length ≤ cur.toList.length := by
        rw [hnl, hcs, Nat.add_assoc, ← Nat.add_mul]
        exact Nat.le_trans (Nat.add_le_add_left (Nat.mul_le_mul_right _ hroom) _) hsz
      have hcellg : ∀ j, j < cur.size → (w.cell? ⟨g, j, none⟩).isSome = true := fun j hj => by
        rw [cell_of_row _ _ _ cur t (0, 0) hh, Array.getElem?_eq_getElem hj]; rfl
      have hr := run_append_room_src (P := P) w T tx ty E i ht hi g off xs.length c x m news (his ▸ hsrc) hroom
        (fun j hj => hcellg _ (by rw [his]; omega)) (fun j _ => hg.frozen (a := ⟨g, _, none⟩) (by simp))
      rw [his] at hr
      have hgG : g ∉ G := hdis g (by simp)
      have hkeep : ∀ g' ∈ F' ++ G, (w.setCells g (off + xs.length * e.size) news).heap[g']? = w.heap[g']? := fun g' hg' =>
        (Mod.setCells (F := [g]) (by simp) news (off + xs.length * e.size) (Mod.refl [g] w)).block g' (by
          rcases List.mem_append.1 hg' with h | h
          · exact hg.lt g' (by simp [h])
          · exact hGd.lt g' h) (by
          rintro h
          obtain rfl : g' = g := by simpa using h
          rcases List.mem_append.1 hg' with h | h
          · exact hgF.1 h
          · exact hgG h)
      have hblk := heap_setCells g t news (off + xs.length * e.size) w cur.toList (by simpa using hh) hbig
      refine ⟨_, _, _, g :: (F' ++ G), hr, .inr ⟨g, off, c, _, t, ces ++ news, F' ++ G, by rw [hlen], rfl, hblk, by rw [hlen]; exact hroom, hcm, ?_, Rep.all_keep (Rep.all_append hce hall) hkeep, ?_⟩, ?_, ?_, ?_⟩
      · simp only [List.size_toArray, List.length_append, List.length_take, List.length_drop]
        omega
      · rw [List.toList_toArray, List.append_assoc, List.drop_append_of_le_length (by rw [List.length_take]; omega), List.drop_take, Nat.add_sub_cancel_left, ← hcl, htk, List.length_append, ← List.append_assoc,
          ← List.length_append, List.take_left]
      · have hG1 : Good w (g :: (F' ++ G)) := by
          have := hg.append hGd hdis
          simpa using this
        refine ⟨hG1.1, fun g' hg' => ?_⟩
        rcases List.mem_cons.1 hg' with rfl | h
        · exact ⟨_, hblk, rfl⟩
        · rw [hkeep g' h]; exact hG1.2 g' (by simp [h])
      · intro g' hg'
        simp only [List.mem_cons, List.mem_append] at hg' ⊢
        rcases hg' with rfl | h | h
        · exact .inl (.inl rfl)
        · exact .inl (.inr h)
        · exact .inr (.inl h)
      · exact Mod.setCells (by simp) news _ (Mod.refl _ w)
    · have hcells := RowHas.cells hh htk
      exact grow ces F' (by omega) (run_firstCells_some w.drew i.size xs.length ⟨g, off, none⟩ xs.length c ces (by rw [hcl, his]) (by simpa [CellsAt] using hcells)) hce ⟨hgF.2, fun g hg' => hg.2 g (by simp [hg'])⟩ (fun g' hg' => by simp [hg'])

/-- Data one behind the other, m of them. -/
def _root_.Go.Proofs.YtnbaekjednmfjaaDoor.Rep.vec (e : Rep α) (m : Nat) : Rep (List α) where
  size := m * e.size
  has w F cs xs := xs.length = m ∧ e.all w F cs xs
  len h := by rw [Rep.all_len h.2, h.1]
  keep h hk := ⟨h.1, Rep.all_keep h.2 hk⟩
  lt h := Rep.all_lt h.2
  one h := Rep.all_one h.2
variable {Γ : List Fact} {o : Oper} {a : Act}
theorem Sat.vec0 (e : Rep α) (h : Sat w0 w Γ) : Sat w0 w (.own (e.vec 0) [] [] :: Γ) := h.flat ⟨rfl, rfl, rfl⟩
theorem Sat.vecCons {m : Nat} {c cs : List Value} {x : α} {xs : List α} (h : Sat w0 w (.own e c x :: .own (e.vec m) cs xs :: Γ)) : Sat w0 w (.own (e.vec (m + 1)) (c ++ cs) (x :: xs) :: Γ) :=
  Sat.steps (Γ1 := [.own e c x, .own (e.vec m) cs xs]) (Γ' := [.own (e.vec (m + 1)) (c ++ cs) (x :: xs)]) h fun R O hO hg _ _ => by
    obtain ⟨O1, O2, rfl, k1, O3, O4, rfl, ⟨k3, k4⟩, rfl⟩ := hO
    exact ⟨O1 ++ O3, ⟨O1 ++ O3, [], by simp, ⟨by simp [k3], O1, O3, c, cs, rfl, rfl, k1, k4⟩, rfl⟩, by simpa using hg, fun g hg => .inl (by simpa using hg), Mod.refl _ _⟩
theorem Sat.vec1 {c : List Value} {x : α} (h : Sat w0 w (.own e c x :: Γ)) : Sat w0 w (.own (e.vec 1) c [x] :: Γ) :=
  h.conv fun F hx => ⟨rfl, Rep.all_one' hx⟩
theorem run_append_exec {s x : Operand} {T tx : TypeId} {v v' : Value} {w' : World} (ho : o.op = .call { callee := .builtin .append, args := #[s, x], argTypes := #[T, tx] }) {u : Value} (hs : a.eval s = v) (hx : a.eval x = u)
    (hr : (Builtin.append_ #[T, tx] o.type #[v, u]).run P w = .ok v' w') : (execOp a.eval o).run P w = .ok (.value v') w' := by
  unfold execOp
  simp only [ho, resolve, invoke, builtin, Sem.run_bind, Sem.run_pure, Result.andThen_ok, List.map_toArray, List.map_cons, List.map_nil, hs, hx, hr]
/-- append of elements written out: their cells lie in a block of their own. -/
theorem does_append {s x : Operand} {T : TypeId} {A : Option Addr} {n c m m' b sz : Nat} {news : List Value} {xs ys : List α} (i : Nat) (hS : Sat w0 w (.own (e.vec m) news ys :: .box b news :: Γ))
    (ho : o.op = .call { callee := .builtin .append, args := #[s, x], argTypes := #[T, T] }) (hs : a.eval s = .slice A n c) (hx : a.eval x = .slice (some ⟨b, 0, none⟩) m m')
    (hi : Γ[i]? = some (.own e.rows [.slice A n c] xs)) [hT : SlTy P T E] [hE : Ty P E z sz ag] [hB : ByTy P E by_] (hsz : sz = e.size) (hzs : z.cells.size = sz) (hby : by_ ≤ 100000) (h30 : n + m ≤ 1073741824) :
    Does P o a w (fun v w' => ∃ A' c', v = .slice A' (n + m) c' ∧ Sat w0 w' (Γ.set i (.own e.rows [.slice A' (n + m) c'] (xs ++ ys)))) := by
  subst hsz
  have hp : (Fact.own (e.vec m) news ys :: .box b news :: Γ).Perm ([.own e.rows [.slice A n c] xs, .own (e.vec m) news ys, .box b news] ++ Γ.eraseIdx i) :=
    (((perm_erase i hi).cons _).cons _).trans (((List.Perm.swap _ _ _).cons _).trans (List.Perm.swap _ _ _))
  obtain ⟨R, O, hO, hG, hR, hRl, hfin⟩ := (hS.perm hp).opened
  obtain ⟨O1, O2, rfl, k1, O3, O4, rfl, ⟨k3, k4⟩, O5, O6, rfl, ⟨rfl, t, k5⟩, rfl⟩ := hO
  have hG1 : Good w O1 := hG.left
  have hG3 : Good w O3 := hG.right.left
  have hd : ∀ g ∈ O1, g ∉ O3 := fun g hg h3 => hG.apart g hg (by simp [h3])
  have hcell : CellsAt w ⟨b, 0, none⟩ news := fun j u hu => by
    rw [Addr.add_lit, Nat.zero_add, cell_of_row _ _ _ _ t (0, 0) k5]; simpa using hu
  have hsrc : Src P e.size T (.slice (some ⟨b, 0, none⟩) m m') m news w := Src.ofSlice w hT.und _ m m' news (by rw [Rep.all_len k4, k3]) hcell (Rep.all_one k4)
  obtain ⟨A', c', w', F', hr, hrow, hgood, hin, hmod⟩ := run_append_rows (ty := o.type) hT hE hB k1 hG1 hsrc k4 k3 hG3 hd h30 hby hzs
  refine ⟨_, w', ⟨A', c', rfl, Sat.perm (hfin w' [.own e.rows [.slice A' (n + m) c'] (xs ++ ys)] F' ⟨F', [], by simp, hrow, rfl⟩ hgood (fun g hg => ?_) (hmod.mono (fun g hg _ => by simp [hg]))) (perm_set i hi)⟩, .inl (run_append_exec ho hs hx hr)⟩
  rcases hin g hg with h | h | h
  · exact .inl (by simp [h])
  · exact .inl (by simp [h])
  · exact .inr h
/-- A literal is a row. -/
theorem Sat.lit {m b : Nat} {cs : List Value} {xs : List α} (h : Sat w0 w (.own (e.vec m) cs xs :: .box b cs :: Γ)) (hm : m ≤ maxLen) : Sat w0 w (.own e.rows [.slice (some ⟨b, 0, none⟩) m m] xs :: Γ) :=
  Sat.steps (Γ1 := [.own (e.vec m) cs xs, .box b cs]) (Γ' := [.own e.rows [.slice (some ⟨b, 0, none⟩) m m] xs]) h fun R O hO hg _ _ => by
    obtain ⟨O1, O2, rfl, ⟨k1, k2⟩, O3, O4, rfl, ⟨rfl, t, k3⟩, rfl⟩ := hO
    refine ⟨b :: O1, ⟨b :: O1, [], by simp, RowHas.whole k3 (by simpa using k2) k1 hm, rfl⟩, hg.perm (by simp), fun g hg => .inl ?_, Mod.refl _ _⟩
    simp only [List.mem_cons] at hg
    rcases hg with rfl | h
    · simp
    · simp [h]
/-- Data without blocks, whatever the world. -/
class Flat {α : Type} (e' e : Rep α) : Prop where
  flat : ∀ {w F cs x}, e'.has w F cs x → ∀ w', e.has w' [] cs x
instance : Flat Rep.int Rep.int := ⟨fun h _ => ⟨rfl, h.2⟩⟩
instance : Flat Rep.bool Rep.bool := ⟨fun h _ => ⟨rfl, h.2⟩⟩
instance : Flat Rep.str Rep.str := ⟨fun h _ => ⟨rfl, h.2⟩⟩
instance : Flat Rep.u8 Rep.u8 := ⟨fun h _ => ⟨rfl, h.2⟩⟩
instance {α β : Type} (a a' : Rep α) (b b' : Rep β) [h : Flat a a'] [k : Flat b b'] : Flat (a.pair b) (a'.pair b') := ⟨by
  rintro w F cs x ⟨F1, F2, c1, c2, rfl, rfl, h1, h2⟩ w'
  exact ⟨[], [], c1, c2, rfl, rfl, h.flat h1 w', k.flat h2 w'⟩⟩
instance {α β : Type} (a a' : Rep α) (f : β → α) [h : Flat a a'] : Flat (a.via f) (a'.via f) := ⟨fun hx w' => h.flat hx w'⟩
theorem Flat.all {α : Type} {e' e : Rep α} [h : Flat e' e] {w w' : World} : ∀ {xs : List α} {F cs}, e'.all w F cs xs → e.all w' [] cs xs
  | [], _, _, k => ⟨rfl, k.2⟩
  | _ :: _, _, _, ⟨F1, F2, c1, c2, e1, e2, k1, k2⟩ => ⟨[], [], c1, c2, rfl, e2, h.flat k1 w', Flat.all k2⟩
/-- What a slice of flat data gives an append. -/
theorem src_flat {e' : Rep α} [hf : Flat e' e] (hT : SlTy P T E) {F : List Nat} {A2 : Option Addr} {m c2 : Nat} {ys : List α} (hy : SliceHas e' w F [.slice A2 m c2] ys) (hs : e'.size = e.size) :
    ∃ news, Src P e.size T (.slice A2 m c2) m news w ∧ e.all w [] news ys := by
  have hn := SliceHas.n hy
  obtain ⟨a', n', cap', ces, Fe, hv, h1, h2, h3, h4, h5⟩ := hy
  simp only [List.cons.injEq, Value.slice.injEq, and_true] at hv
  obtain ⟨rfl, rfl, rfl⟩ := hv
  have hall : e.all w [] ces ys := hf.all h4
  rcases h5 with ⟨h0, _⟩ | ⟨ad, rfl, rfl, hb, hc⟩
  · have hy : ys = [] := List.eq_nil_of_length_eq_zero (by omega)
    subst hy
    obtain ⟨_, rfl⟩ := h4
    subst h0
    cases A2 with
    | none => exact ⟨[], Src.ofNil w hT.und _, hall⟩
    | some ad => exact ⟨[], Src.ofSlice w hT.und ad 0 _ [] (by simp) (by simp) (by simp), hall⟩
  · exact ⟨ces, Src.ofSlice w hT.und ad m c2 ces (by rw [Rep.all_len hall, hn]) hc (Rep.all_one hall), hall⟩
/-- append(xs, ys...), ys without blocks. -/
theorem does_appendFlat {s x : Operand} {T : TypeId} {A A2 : Option Addr} {n c m c2 sz : Nat} {xs ys : List α} (i : Nat) (hS : Sat w0 w Γ) (e' : Rep α) [hf : Flat e' e] (hy : ∃ F, SliceHas e' w F [.slice A2 m c2] ys) (hs' : e'.size = e.size)
    (ho : o.op = .call { callee := .builtin .append, args := #[s, x], argTypes := #[T, T] }) (hs : a.eval s = .slice A n c) (hx : a.eval x = .slice A2 m c2)
    (hi : Γ[i]? = some (.own e.rows [.slice A n c] xs)) [hT : SlTy P T E] [hE : Ty P E z sz ag] [hB : ByTy P E by_] (hsz : sz = e.size) (hzs : z.cells.size = sz) (hby : by_ ≤ 100000) (h30 : n + m ≤ 1073741824) :
    Does P o a w (fun v w' => ∃ A' c', v = .slice A' (n + m) c' ∧ Sat w0 w' (Γ.set i (.own e.rows [.slice A' (n + m) c'] (xs ++ ys)))) := by
  subst hsz
  obtain ⟨F, hy⟩ := hy
  have hn := SliceHas.n hy
  obtain ⟨news, hsrc, hall⟩ := src_flat (e := e) hT hy hs'
  obtain ⟨R, O, hO, hG, hR, hRl, hfin⟩ := Sat.opened (Γ1 := [.own e.rows [.slice A n c] xs]) (hS.pull i hi)
  obtain ⟨O1, O2, rfl, k1, rfl⟩ := hO
  obtain ⟨A', c', w', F', hr, hrow, hgood, hin, hmod⟩ := run_append_rows (ty := o.type) hT hE hB k1 hG.left hsrc hall hn (Good.nil w) (by simp) h30 hby hzs
  refine ⟨_, w', ⟨A', c', rfl, Sat.perm (hfin w' [.own e.rows [.slice A' (n + m) c'] (xs ++ ys)] F' ⟨F', [], by simp, hrow, rfl⟩ hgood (fun g hg => ?_) (hmod.mono (fun g hg _ => by simp [hg]))) (perm_set i hi)⟩, .inl (run_append_exec ho hs hx hr)⟩
  rcases hin g hg with h | h | h
  · exact .inl (by simp [h])
  · cases h
  · exact .inr h
/-- append(xs, ys...), ys a row of one's own that is given up. -/
theorem does_appendRow {s x : Operand} {T : TypeId} {A A2 : Option Addr} {n c m c2 sz : Nat} {xs ys : List α} (i : Nat) (hS : Sat w0 w (.own e.rows [.slice A2 m c2] ys :: Γ))
    (ho : o.op = .call { callee := .builtin .append, args := #[s, x], argTypes := #[T, T] }) (hs : a.eval s = .slice A n c) (hx : a.eval x = .slice A2 m c2)
    (hi : Γ[i]? = some (.own e.rows [.slice A n c] xs)) [hT : SlTy P T E] [hE : Ty P E z sz ag] [hB : ByTy P E by_] (hsz : sz = e.size) (hzs : z.cells.size = sz) (hby : by_ ≤ 100000) (h30 : n + m ≤ 1073741824) :
    Does P o a w (fun v w' => ∃ A' c', v = .slice A' (n + m) c' ∧ Sat w0 w' (Γ.set i (.own e.rows [.slice A' (n + m) c'] (xs ++ ys)))) := by
  subst hsz
  have hp : (Fact.own e.rows [.slice A2 m c2] ys :: Γ).Perm ([.own e.rows [.slice A n c] xs, .own e.rows [.slice A2 m c2] ys] ++ Γ.eraseIdx i) :=
    ((perm_erase i hi).cons _).trans (List.Perm.swap _ _ _)
  obtain ⟨R, O, hO, hG, hR, hRl, hfin⟩ := (hS.perm hp).opened
  obtain ⟨O1, O2, rfl, k1, O3, O4, rfl, k3, rfl⟩ := hO
  have hm := RowHas.n k3
  have hd : ∀ g ∈ O1, g ∉ O3 := fun g hg h3 => hG.apart g hg (by simp [h3])
  obtain ⟨news, G, hsrc, hall, hGG, hGs⟩ : ∃ news G, Src P e.size T (.slice A2 m c2) m news w ∧ e.all w G news ys ∧ Good w G ∧ ∀ g ∈ G, g ∈ O3 := by
    have hG3 : Good w O3 := hG.right.left
    rcases k3 with ⟨hv, hxs, hF⟩ | ⟨g, off, cap, cur, t, ces, F', hv, hF, hh, hle, hcm, hsz, hce, htk⟩
    · simp only [List.cons.injEq, Value.slice.injEq, and_true] at hv
      obtain ⟨rfl, rfl, rfl⟩ := hv
      subst hxs
      exact ⟨[], [], Src.ofNil w hT.und _, ⟨rfl, rfl⟩, Good.nil w, by simp⟩
    · simp only [List.cons.injEq, Value.slice.injEq, and_true] at hv
      obtain ⟨rfl, rfl, rfl⟩ := hv
      subst hF
      exact ⟨ces, F', Src.ofSlice w hT.und _ _ _ ces (by rw [Rep.all_len hce]) (RowHas.cells hh htk) (Rep.all_one hce), hce, ⟨(List.nodup_cons.1 hG3.1).2, fun g hg => hG3.2 g (by simp [hg])⟩, fun g hg => by simp [hg]⟩
  obtain ⟨A', c', w', F', hr, hrow, hgood, hin, hmod⟩ := run_append_rows (ty := o.type) hT hE hB k1 hG.left hsrc hall hm hGG (fun g hg hg2 => hd g hg (hGs g hg2)) h30 hby hzs
  refine ⟨_, w', ⟨A', c', rfl, Sat.perm (hfin w' [.own e.rows [.slice A' (n + m) c'] (xs ++ ys)] F' ⟨F', [], by simp, hrow, rfl⟩ hgood (fun g hg => ?_) (hmod.mono (fun g hg _ => by simp [hg]))) (perm_set i hi)⟩, .inl (run_append_exec ho hs hx hr)⟩
  rcases hin g hg with h | h | h
  · exact .inl (by simp [h])
  · exact .inl (by simp [hGs g h])
  · exact .inr h

/-! ### make, single elements -/
theorem does_make {T : TypeId} {l cp : Operand} {n sz : Nat} {zx : α} (hS : Sat w0 w Γ) (ho : o.op = .makeSlice T l cp) (hl : a.eval l = .int .i64 (n : Int)) (hcp : a.eval cp = .int .i64 (n : Int))
    [hT : SlTy P T E] [hE : Ty P E z sz ag] [hB : ByTy P E by_] (hsz : sz = e.size) (hzs : z.cells.size = sz) (hpos : 0 < sz) (hzx : ∀ w, e.has w [] z.cells.toList zx) (hby : by_ ≤ 100000) (h30 : n ≤ 1073741824) :
    Does P o a w (fun v w' => ∃ b, v = .slice (some ⟨b, 0, none⟩) n n ∧ Sat w0 w' (.own e.rows [.slice (some ⟨b, 0, none⟩) n n] (List.replicate n zx) :: Γ) ∧ Mod [] w w') := by
  subst hsz
  obtain ⟨i, d, hi, hiz, his, _, _⟩ := hE.parts
  have hib : i.bytes = by_ := by have := hB.bytes; rw [hi] at this; simpa using this
  have hbb : by_ * n ≤ 281474976710656 := by
    have := Nat.mul_le_mul hby h30
    omega
  have hrun := make_eq (P := P) T E z e.size by_ hT.und (by rw [hi]; simp [hiz, his, hib]) n hbb (by omega) w
  refine ⟨_, _, ⟨w.heap.size, rfl, ?_, Mod.alloc0 _ _⟩, .inl (by unfold execOp; simp only [ho, hl, hcp, Sem.run_bind, hrun, Result.andThen_ok]; rfl)⟩
  refine Sat.steps (Γ1 := []) (Γ' := [.own e.rows _ _]) hS fun R O hO _ _ _ => ?_
  cases hO
  refine ⟨[w.heap.size], ⟨[w.heap.size], [], by simp, RowHas.whole (heap_alloc_new w _) ?_ (by simp) (by unfold maxLen; omega), rfl⟩, (Good.nil w).cons _ _, by simp, Mod.alloc0 _ _⟩
  have := all_made (e := e) hzs hpos (w.alloc (.cells (madeCells z.cells (n * e.size)) E)) (hzx _) n
  simpa using this
/-- A row of one's own that has an element: where it lies. -/
theorem Sat.rowAt {A : Option Addr} {n c k : Nat} {xs : List α} (hS : Sat w0 w Γ) (i : Nat) (hi : Γ[i]? = some (.own e.rows [.slice A n c] xs)) (hk : k < n) : ∃ g off, A = some ⟨g, off, none⟩ := by
  obtain ⟨R, O, ⟨O1, O2, rfl, k1, _⟩, _⟩ := hS.pull i hi
  have hn := RowHas.n k1
  rcases k1 with ⟨hv, hxs, hF⟩ | ⟨g, off, cap, cur, t, ces, F', hv, _⟩
  · subst hxs; simp at hn; omega
  · simp only [List.cons.injEq, Value.slice.injEq, and_true] at hv
    exact ⟨g, off, hv.1⟩
/-- An element of one cell in a row of one's own. -/
theorem Sat.rowCell {g off n c k : Nat} {xs : List α} {x : α} (hS : Sat w0 w Γ) (i : Nat) (hi : Γ[i]? = some (.own e.rows [.slice (some ⟨g, off, none⟩) n c] xs)) (h1 : e.size = 1) (hx : xs[k]? = some x) :
    (∃ u F, w.cell? ⟨g, off + k, none⟩ = some u ∧ e.has w F [u] x) ∧ ∀ o, w.frozen? ⟨g, o, none⟩ = false := by
  obtain ⟨R, O, ⟨O1, O2, rfl, k1, _⟩, hG, _⟩ := hS.pull i hi
  obtain ⟨hkl, hxk⟩ := List.getElem?_eq_some_iff.1 hx
  rcases k1 with ⟨hv, hxs, hF⟩ | ⟨g', off', cap, cur, t, ces, F', hv, rfl, hh, hle, hcm, hsz, hce, htk⟩
  · subst hxs; simp at hkl
  · simp only [List.cons.injEq, Value.slice.injEq, Option.some.injEq, Addr.mk.injEq, and_true] at hv
    obtain ⟨⟨rfl, rfl⟩, rfl, rfl⟩ := hv
    obtain ⟨Fa, Fk, Fb, ca, ck, cb, rfl, rfl, hl, _, hh2, _⟩ := Rep.all_get hce (k := k) hkl
    have hc := RowHas.cells hh htk
    have hlen := e.len hh2
    rw [h1] at hlen hl
    obtain ⟨u, rfl⟩ : ∃ u, ck = [u] := by
      match ck, hlen with
      | [u], _ => exact ⟨u, rfl⟩
    refine ⟨⟨u, Fk, ?_, hxk ▸ hh2⟩, fun o => hG.frozen (a := ⟨g, o, none⟩) (by simp)⟩
    have := hc k u (by rw [List.append_assoc, List.getElem?_append_right (by omega), hl]; simp)
    rwa [Addr.add_lit] at this
end
end Go.Proofs.YtnbaekjednmfjaaDoor
end

section
namespace Go.Proofs.YtnbaekjednmfjaaDoor
open Go.RowKit

section
variable {P : Program} {w w0 : World} {T E : TypeId} {z : Value} {by_ : Nat} {ag : Bool} {α : Type} {e : Rep α} {Γ : List Fact} {o : Oper} {a : Act}
def BoundIs (a : Act) (lo : Option Operand) (dflt l : Nat) : Prop :=
  match lo with
  | none => l = dflt
  | some x => a.eval x = .int .i64 (l : Int)
def cutAt (A : Option Addr) (l c s : Nat) : Option Addr := if c = l then A else A.map (·.add (l * s))
theorem run_cut (hT : SlTy P T E) {n : Nat} (hE : Ty P E z n ag) {A : Option Addr} {m c l h : Nat} {lo hi : Option Operand} (hlo : BoundIs a lo 0 l) (hhi : BoundIs a hi m h) (h1 : l ≤ h) (h2 : h ≤ m) (h3 : m ≤ c) :
    (Instr.sliceAt T (.slice A m c) (lo.map a.eval) (hi.map a.eval) none).run P w = .ok (.slice (cutAt A l c n) (h - l) (c - l)) w := by
  have hu : P.underlying T = some (.slice (P.elem T)) := by
    have := hT.und
    simp [Program.elem, this]
  have he : P.elem T = E := by have := hT.und; simp [Program.elem, this]
  rw [run_sliceAt_slice w T _ _ _ _ hu]
  have hsz := run_sizeOf hE w
  rw [← he] at hsz
  cases lo with
  | none =>
    obtain rfl : l = 0 := hlo
    cases hi with
    | none =>
      obtain rfl : h = m := hhi
      simp only [Option.map_none]
      rw [run_slice_any w T A h c hu]
      simp [Instr.sliceBounds, hsz, sliced, cutAt]
    | some y =>
      simp only [Option.map_some, Option.map_none, show a.eval y = _ from hhi]
      rw [run_slice_h w T A m c hu .i64 h (by omega) (by omega), hsz]
      simp [sliced, cutAt]
  | some x =>
    have hx : a.eval x = .int .i64 (l : Int) := hlo
    cases hi with
    | none =>
      obtain rfl : h = m := hhi
      simp only [Option.map_some, Option.map_none, hx]
      rw [run_slice_l w T A h c hu .i64 l (by omega) (by omega), hsz]
      simp [sliced, cutAt]
    | some y =>
      simp only [Option.map_some, hx, show a.eval y = _ from hhi]
      rw [run_slice_lh w T A m c hu .i64 .i64 l h (by omega) (by omega) (by omega), hsz]
      simp [sliced, cutAt]
theorem SliceHas.cut {F : List Nat} {A : Option Addr} {n c l h : Nat} {xs : List α} (hx : SliceHas e w F [.slice A n c] xs) (h1 : l ≤ h) (h2 : h ≤ n) :
    ∃ F', SliceHas e w F' [.slice (cutAt A l c e.size) (h - l) (c - l)] ((xs.take h).drop l) ∧ ∀ g ∈ F', g ∈ F := by
  have hn := SliceHas.n hx
  obtain ⟨a', n', cap', ces, Fe, hv, k1, k2, k3, k4, k5⟩ := hx
  simp only [List.cons.injEq, Value.slice.injEq, and_true] at hv
  obtain ⟨rfl, rfl, rfl⟩ := hv
  have hlen : ((xs.take h).drop l).length = h - l := by simp; omega
  by_cases h0 : h - l = 0
  · have hnil : (xs.take h).drop l = [] := List.eq_nil_of_length_eq_zero (by omega)
    refine ⟨[], ⟨_, _, _, [], [], rfl, by rw [hlen], by omega, by omega, by rw [hnil]; exact ⟨rfl, rfl⟩, .inl ⟨h0, rfl⟩⟩, by simp⟩
  · rcases k5 with ⟨hz, _⟩ | ⟨ad, rfl, rfl, hb, hc⟩
    · omega
    have hsplit : xs = xs.take l ++ ((xs.take h).drop l ++ xs.drop h) := by
      rw [← List.append_assoc]
      have : xs.take l ++ (xs.take h).drop l = xs.take h := by
        have e1 : xs.take l = (xs.take h).take l := by rw [List.take_take, Nat.min_eq_left h1]
        rw [e1, List.take_append_drop]
      rw [this, List.take_append_drop]
    rw [hsplit] at k4
    obtain ⟨F1, F2, c1, c2, rfl, rfl, a1, a2⟩ := Rep.all_split k4
    obtain ⟨F3, F4, c3, c4, rfl, rfl, a3, a4⟩ := Rep.all_split a2
    have hl1 := Rep.all_len a1
    rw [List.length_take, Nat.min_eq_left (by omega)] at hl1
    refine ⟨ad.block :: F3, ⟨_, _, _, c3, F3, rfl, by rw [hlen], by omega, by omega, a3, .inr ⟨ad.add (l * e.size), ?_, by rw [add_block], by rw [add_block]; exact hb, ?_⟩⟩, fun g hg => by simp at hg ⊢; rcases hg with rfl | h <;> simp [*]⟩
    · unfold cutAt; rw [if_neg (by omega)]; rfl
    · intro j u hu
      rw [add_add']
      refine hc _ u ?_
      have hj : j < c3.length := (List.getElem?_eq_some_iff.1 hu).1
      rw [List.getElem?_append_right (by omega), hl1, Nat.add_sub_cancel_left, List.getElem?_append_left hj]
      exact hu
theorem Sat.cutRo {A : Option Addr} {n c l h : Nat} {xs : List α} (hS : Sat w0 w Γ) (i : Nat) (hi : Γ[i]? = some (.ro e.slice [.slice A n c] xs)) (h1 : l ≤ h) (h2 : h ≤ n) :
    Sat w0 w (.ro e.slice [.slice (cutAt A l c e.size) (h - l) (c - l)] ((xs.take h).drop l) :: Γ) := by
  obtain ⟨R, O, ⟨O1, O2, rfl, ⟨rfl, F, hF, hR⟩, k2⟩, k3, k4, k5, k6⟩ := hS.pull i hi
  obtain ⟨F', hF', hs⟩ := SliceHas.cut hF h1 h2
  have hS2 : Sat w0 w (.ro e.slice [.slice (cutAt A l c e.size) (h - l) (c - l)] ((xs.take h).drop l) :: .ro e.slice [.slice A n c] xs :: Γ.eraseIdx i) :=
    ⟨R, O2, ⟨[], O2, rfl, ⟨rfl, F', hF', fun g hg => hR g (hs g hg)⟩, [], O2, rfl, ⟨rfl, F, hF, hR⟩, k2⟩, k3, k4, k5, k6⟩
  exact hS2.perm ((perm_erase i hi).symm.cons _)
theorem does_slice {x : Operand} {lo hi : Option Operand} {A : Option Addr} {n c l h sz : Nat} {xs : List α} (i : Nat) (hS : Sat w0 w Γ) (ho : o.op = .slice T x lo hi none) (hx : a.eval x = .slice A n c) (hi' : Γ[i]? = some (.ro e.slice [.slice A n c] xs))
    (hlo : BoundIs a lo 0 l) (hhi : BoundIs a hi n h) (h1 : l ≤ h) (h2 : h ≤ n) [hT : SlTy P T E] [hE : Ty P E z sz ag] (hsz : sz = e.size) :
    Does P o a w (fun v w' => ∃ A' c', v = .slice A' (h - l) c' ∧ w' = w ∧ Sat w0 w (.ro e.slice [.slice A' (h - l) c'] ((xs.take h).drop l) :: Γ)) := by
  subst hsz
  have hc : n ≤ c := by
    obtain ⟨F, hF⟩ := (hS.pull i hi').readRo
    obtain ⟨a', n', cap', hv, h1, h2, h3⟩ := SliceHas.form hF
    simp only [Value.slice.injEq] at hv
    omega
  have hr := run_cut (w := w) (A := A) (a := a) hT hE hlo hhi h1 h2 hc
  refine ⟨_, w, ⟨_, _, rfl, rfl, hS.cutRo i hi' h1 h2⟩, .inl ?_⟩
  unfold execOp
  simp only [ho, hx, Sem.run_bind, Option.map_none, hr, Result.andThen_ok]
  rfl
/-- An element of one cell, stored into a row of one's own; what it holds is given up. -/
theorem does_storeEl {p x : Operand} {g off n c k : Nat} {xs : List α} {u : Value} {y : α} (i : Nat) (hS : Sat w0 w (.own e [u] y :: Γ)) (ho : o.op = .store T p x) (hp : a.eval p = .pointer (some ⟨g, off + k, none⟩)) (hx : a.eval x = u)
    (hi : Γ[i]? = some (.own e.rows [.slice (some ⟨g, off, none⟩) n c] xs)) [hT : Ty P T z 1 false] (hu : u.oneCell' = true) (h1 : e.size = 1) (hk : k < n) :
    Does P o a w (fun v w' => v = undef ∧ Sat w0 w' (Γ.set i (.own e.rows [.slice (some ⟨g, off, none⟩) n c] (xs.set k y)))) := by
  have hc := oneCell_cells hu
  have hp' : (Fact.own e [u] y :: Γ).Perm ([.own e.rows [.slice (some ⟨g, off, none⟩) n c] xs, .own e [u] y] ++ Γ.eraseIdx i) :=
    ((perm_erase i hi).cons _).trans (List.Perm.swap _ _ _)
  obtain ⟨R, O, hO, hG, hR, hRl, hfin⟩ := (hS.perm hp').opened
  obtain ⟨O1, O2, rfl, k1, O3, O4, rfl, k3, rfl⟩ := hO
  have hnn := RowHas.n k1
  have hkl : k < xs.length := by omega
  have hd : ∀ g ∈ O1, g ∉ O3 := fun g hg h3 => hG.apart g hg (by simp [h3])
  have hG3 : Good w O3 := hG.right.left
  rcases k1 with ⟨hv, hxs, hF⟩ | ⟨g', off', cap, cur, t, ces, F', hv, rfl, hh, hle, hcm, hsz, hce, htk⟩
  · subst hxs; simp at hkl
  simp only [List.cons.injEq, Value.slice.injEq, Option.some.injEq, Addr.mk.injEq, and_true] at hv
  obtain ⟨⟨rfl, rfl⟩, rfl, rfl⟩ := hv
  obtain ⟨Fa, Fk, Fb, ca, ck, cb, rfl, rfl, hl, ha, hh2, hb⟩ := Rep.all_get hce (k := k) hkl
  have hlen := e.len hh2
  rw [h1] at hlen hl hsz
  obtain ⟨u0, rfl⟩ : ∃ u, ck = [u] := by
    match ck, hlen with
    | [u], _ => exact ⟨u, rfl⟩
  have hcl : (ca ++ [u0] ++ cb).length = xs.length := by have := Rep.all_len hce; rw [h1] at this; omega
  have hcur : off + k < cur.size := by omega
  have hcell : (w.cell? ⟨g, off + k, none⟩).isSome = true := by
    rw [cell_of_row _ _ _ cur t (0, 0) hh, Array.getElem?_eq_getElem hcur]; rfl
  have hfr : ∀ j, w.frozen? ⟨g, j, none⟩ = false := fun j => hG.left.frozen (a := ⟨g, j, none⟩) (by simp)
  have hr := run_storeN (w := w) (g := g) (o := off + k) (v := u) hT (by rw [hc]; rfl) (by rw [hc]; simpa using hu) (fun j hj => (by obtain rfl : j = 0 := (by omega); exact hcell)) hfr
  rw [hc] at hr
  have hnd := List.nodup_cons.1 hG.left.1
  have hgO3 : g ∉ O3 := hd g (by simp)
  have hsame : ∀ g', g' ≠ g → (w.setCell ⟨g, off + k, none⟩ u).heap[g']? = w.heap[g']? := fun g' hg' => Below.heap_setCell _ _ _ _ hg'
  have hs1 : ∀ g' ∈ Fa ++ Fk ++ Fb, (w.setCell ⟨g, off + k, none⟩ u).heap[g']? = w.heap[g']? := fun g' hg' => hsame g' (by rintro rfl; exact hnd.1 hg')
  have hs3 : ∀ g' ∈ O3, (w.setCell ⟨g, off + k, none⟩ u).heap[g']? = w.heap[g']? := fun g' hg' => hsame g' (by rintro rfl; exact hgO3 hg')
  have hblk : (w.setCell ⟨g, off + k, none⟩ u).heap[g]? = some (.cells (cur.setIfInBounds (off + k) u) t (0, 0)) := by
    rw [World.setCell]; simp only [Array.getElem?_modify, if_true, hh]; rfl
  have hrow : RowHas e (w.setCell ⟨g, off + k, none⟩ u) (g :: (Fa ++ O3 ++ Fb)) [.slice (some ⟨g, off, none⟩) xs.length c] (xs.set k y) := by
    refine .inr ⟨g, off, c, _, t, ca ++ [u] ++ cb, Fa ++ O3 ++ Fb, by rw [List.length_set], rfl, hblk, by rw [List.length_set]; exact hle, hcm, by rw [h1, Array.size_setIfInBounds]; exact hsz, ?_, ?_⟩
    · have hxs : xs.set k y = xs.take k ++ y :: xs.drop (k + 1) := by rw [List.set_eq_take_append_cons_drop, if_pos hkl]
      rw [hxs, List.append_assoc, List.append_assoc]
      exact Rep.all_append (Rep.all_keep ha (fun g hg => hs1 g (by simp [hg]))) ⟨O3, Fb, [u], cb, rfl, rfl, e.keep k3 hs3, Rep.all_keep hb (fun g hg => hs1 g (by simp [hg]))⟩
    · have e1 : (cur.setIfInBounds (off + k) u).toList = cur.toList.set (off + k) u := by simp
      have e2 : ca ++ [u] ++ cb = (ca ++ [u0] ++ cb).set k u := by
        rw [List.append_assoc, List.append_assoc, List.set_append_right _ _ (by omega), hl, Nat.mul_one, Nat.sub_self]; rfl
      rw [e1, e2, List.length_set, List.drop_set, if_neg (by omega), Nat.add_sub_cancel_left, List.take_set, htk]
  have hgood : Good (w.setCell ⟨g, off + k, none⟩ u) (g :: (Fa ++ O3 ++ Fb)) := by
    have h2 : Good w (g :: (Fa ++ O3 ++ Fb)) := by
      refine ⟨?_, fun g' hg' => ?_⟩
      · have hn2 := hnd.2
        rw [List.nodup_append, List.nodup_append] at hn2
        have hd' : ∀ g' ∈ O3, g' ∉ Fa ∧ g' ∉ Fb := fun g' hg' => ⟨fun h => hd g' (by simp [h]) hg', fun h => hd g' (by simp [h]) hg'⟩
        rw [List.nodup_cons, List.nodup_append, List.nodup_append]
        refine ⟨fun hg => ?_, ⟨hn2.1.1, hG3.1, fun a ha b hb e => (hd' b hb).1 (e ▸ ha)⟩, hn2.2.1, fun a ha b hb e => ?_⟩
        · simp only [List.mem_append] at hg
          rcases hg with (hg | hg) | hg
          · exact hnd.1 (by simp [hg])
          · exact hgO3 hg
          · exact hnd.1 (by simp [hg])
        · rcases List.mem_append.1 ha with ha | ha
          · exact hn2.2.2 a (by simp [ha]) b hb e
          · exact (hd' a ha).2 (e ▸ hb)
      · simp only [List.mem_cons, List.mem_append] at hg'
        rcases hg' with rfl | (h | h) | h
        · exact hG.left.2 _ (by simp)
        · exact hG.left.2 _ (by simp [h])
        · exact hG3.2 _ h
        · exact hG.left.2 _ (by simp [h])
    exact h2.setCell _ _
  refine ⟨undef, w.setCell ⟨g, off + k, none⟩ u, ⟨rfl, Sat.perm (hfin _ [.own e.rows [.slice (some ⟨g, off, none⟩) xs.length c] (xs.set k y)] (g :: (Fa ++ O3 ++ Fb)) ⟨_, [], by simp, hrow, rfl⟩ hgood (fun g' hg' => .inl ?_) ?_) (perm_set i hi)⟩, .inr ⟨?_, rfl⟩⟩
  · simp only [List.mem_cons, List.mem_append] at hg' ⊢
    rcases hg' with rfl | (h | h) | h
    · exact .inl (.inl rfl)
    · exact .inl (.inr (.inl (.inl h)))
    · exact .inr (.inl h)
    · exact .inl (.inr (.inr h))
  · exact (Mod.refl _ _).setCell (by simp) u
  · unfold execOp
    simp only [ho, hp, hx, Sem.run_bind, hr, Result.andThen_ok]
    rfl

/-! ### Elements of slices that nobody writes, by type -/
theorem Sat.elemInt {A : Option Addr} {n c k : Nat} {xs : List Int} (h : Sat w0 w Γ) (i : Nat) (hi : Γ[i]? = some (.ro Rep.int.slice [.slice A n c] xs)) {x : Int} (hx : xs[k]? = some x) :
    ∃ ad, A = some ad ∧ I64 x ∧ Sat w0 w (.at (ad.add k) [.int .i64 x] :: Γ) := by
  obtain ⟨ad, ck, rfl, _, hS⟩ := h.elem i hi hx
  obtain ⟨F, rfl, rfl, hI⟩ := (hS.pull 1 rfl).readRo
  refine ⟨ad, rfl, hI, ?_⟩
  have := Sat.drop (hS.pull 1 rfl)
  simpa [Rep.int] using this
theorem Sat.elemBool {A : Option Addr} {n c k : Nat} {xs : List Bool} (h : Sat w0 w Γ) (i : Nat) (hi : Γ[i]? = some (.ro Rep.bool.slice [.slice A n c] xs)) {x : Bool} (hx : xs[k]? = some x) :
    ∃ ad, A = some ad ∧ Sat w0 w (.at (ad.add k) [.bool x] :: Γ) := by
  obtain ⟨ad, ck, rfl, _, hS⟩ := h.elem i hi hx
  obtain ⟨F, rfl, rfl⟩ := (hS.pull 1 rfl).readRo
  refine ⟨ad, rfl, ?_⟩
  have := Sat.drop (hS.pull 1 rfl)
  simpa [Rep.bool] using this
theorem Sat.elemStr {A : Option Addr} {n c k : Nat} {xs : List ByteArray} (h : Sat w0 w Γ) (i : Nat) (hi : Γ[i]? = some (.ro Rep.str.slice [.slice A n c] xs)) {x : ByteArray} (hx : xs[k]? = some x) :
    ∃ ad, A = some ad ∧ x.size ≤ maxLen ∧ Sat w0 w (.at (ad.add k) [.string x] :: Γ) := by
  obtain ⟨ad, ck, rfl, _, hS⟩ := h.elem i hi hx
  obtain ⟨F, rfl, rfl, hI⟩ := (hS.pull 1 rfl).readRo
  refine ⟨ad, rfl, hI, ?_⟩
  have := Sat.drop (hS.pull 1 rfl)
  simpa [Rep.str] using this
theorem Sat.elemU8 {A : Option Addr} {n c k : Nat} {xs : List UInt8} (h : Sat w0 w Γ) (i : Nat) (hi : Γ[i]? = some (.ro Rep.u8.slice [.slice A n c] xs)) {x : UInt8} (hx : xs[k]? = some x) :
    ∃ ad, A = some ad ∧ Sat w0 w (.at (ad.add k) [.int .u8 x.toNat] :: Γ) := by
  obtain ⟨ad, ck, rfl, _, hS⟩ := h.elem i hi hx
  obtain ⟨F, rfl, rfl⟩ := (hS.pull 1 rfl).readRo
  refine ⟨ad, rfl, ?_⟩
  have := Sat.drop (hS.pull 1 rfl)
  simpa [Rep.u8] using this
theorem Sat.elemSlice {A : Option Addr} {n c k : Nat} {xs : List (List α)} (h : Sat w0 w Γ) (i : Nat) (hi : Γ[i]? = some (.ro e.slice.slice [.slice A n c] xs)) {x : List α} (hx : xs[k]? = some x) :
    ∃ ad A' c', A = some ad ∧ x.length ≤ c' ∧ c' ≤ maxLen ∧ Sat w0 w (.at (ad.add k) [.slice A' x.length c'] :: .ro e.slice [.slice A' x.length c'] x :: Γ) := by
  obtain ⟨ad, ck, rfl, hl, hS⟩ := h.elem i hi hx
  obtain ⟨u, rfl⟩ : ∃ u, ck = [u] := by
    match ck, hl with
    | [u], _ => exact ⟨u, rfl⟩
  obtain ⟨F, hF⟩ := (hS.pull 1 rfl).readRo
  obtain ⟨A', n', c', rfl, rfl, h1, h2⟩ := SliceHas.form hF
  refine ⟨ad, A', c', rfl, h1, h2, ?_⟩
  simpa [Rep.slice] using hS
theorem Sat.formRo {A : Value} {xs : List α} (h : Sat w0 w Γ) (i : Nat) (hi : Γ[i]? = some (.ro e.slice [A] xs)) : ∃ A' c', A = .slice A' xs.length c' ∧ xs.length ≤ c' ∧ c' ≤ maxLen := by
  obtain ⟨F, hF⟩ := (h.pull i hi).readRo
  obtain ⟨A', n', c', rfl, rfl, h1, h2⟩ := SliceHas.form hF
  exact ⟨A', c', rfl, h1, h2⟩
theorem Sat.formOwn {A : Value} {xs : List α} (h : Sat w0 w Γ) (i : Nat) (hi : Γ[i]? = some (.own e.rows [A] xs)) : ∃ A' c', A = .slice A' xs.length c' := by
  obtain ⟨R, O, ⟨O1, O2, rfl, k1, _⟩, _⟩ := h.pull i hi
  exact RowHas.form k1
theorem Sat.formOwnN {A : Value} {xs : List α} {n : Nat} (h : Sat w0 w Γ) (i : Nat) (hi : Γ[i]? = some (.own e.rows [A] xs)) (hn : xs.length = n) : ∃ A' c', A = .slice A' n c' := by subst hn; exact h.formOwn i hi
theorem get_some {α : Type} {xs : List α} {k : Nat} (h : k < xs.length) : xs[k]? = some xs[k] := List.getElem?_eq_getElem h
theorem Sat.swap {f g : Fact} (h : Sat w0 w (f :: g :: Γ)) : Sat w0 w (g :: f :: Γ) := h.perm (List.Perm.swap _ _ _)
theorem Sat.roInt {cs : List Value} {n : Int} (h : Sat w0 w (.ro Rep.int cs n :: Γ)) : cs = [.int .i64 n] ∧ I64 n ∧ Sat w0 w Γ := by
  obtain ⟨F, rfl, rfl, hI⟩ := h.readRo
  exact ⟨rfl, hI, h.drop⟩
theorem Sat.roBool {cs : List Value} {b : Bool} (h : Sat w0 w (.ro Rep.bool cs b :: Γ)) : cs = [.bool b] ∧ Sat w0 w Γ := by
  obtain ⟨F, rfl, rfl⟩ := h.readRo
  exact ⟨rfl, h.drop⟩
theorem Sat.roStr {cs : List Value} {s : ByteArray} (h : Sat w0 w (.ro Rep.str cs s :: Γ)) : cs = [.string s] ∧ s.size ≤ maxLen ∧ Sat w0 w Γ := by
  obtain ⟨F, rfl, rfl, hI⟩ := h.readRo
  exact ⟨rfl, hI, h.drop⟩
theorem Sat.roSl {cs : List Value} {xs : List α} (h : Sat w0 w (.ro e.slice cs xs :: Γ)) : ∃ A c, cs = [.slice A xs.length c] ∧ Sat w0 w (.ro e.slice [.slice A xs.length c] xs :: Γ) := by
  obtain ⟨F, hF⟩ := h.readRo
  obtain ⟨u, rfl⟩ := Rep.one_cell rfl hF
  obtain ⟨A', n', c', rfl, rfl, h1, h2⟩ := SliceHas.form hF
  exact ⟨A', c', rfl, h⟩
theorem Sat.ownInt {cs : List Value} {n : Int} (h : Sat w0 w (.own Rep.int cs n :: Γ)) : cs = [.int .i64 n] ∧ I64 n ∧ Sat w0 w Γ := by
  obtain ⟨F, _, rfl, hI⟩ := h.readOwn Rep.int
  exact ⟨rfl, hI, h.drop⟩
theorem Sat.ownBool {cs : List Value} {b : Bool} (h : Sat w0 w (.own Rep.bool cs b :: Γ)) : cs = [.bool b] ∧ Sat w0 w Γ := by
  obtain ⟨F, _, rfl⟩ := h.readOwn Rep.bool
  exact ⟨rfl, h.drop⟩
theorem Sat.ownStr {cs : List Value} {s : ByteArray} (h : Sat w0 w (.own Rep.str cs s :: Γ)) : cs = [.string s] ∧ s.size ≤ maxLen ∧ Sat w0 w Γ := by
  obtain ⟨F, _, rfl, hI⟩ := h.readOwn Rep.str
  exact ⟨rfl, hI, h.drop⟩
theorem Sat.ownSl {cs : List Value} {xs : List α} (h : Sat w0 w (.own e.rows cs xs :: Γ)) : ∃ A c, cs = [.slice A xs.length c] ∧ Sat w0 w (.own e.rows [.slice A xs.length c] xs :: Γ) := by
  obtain ⟨F, hF⟩ := h.readOwn e.rows
  obtain ⟨u, rfl⟩ := Rep.one_cell rfl hF
  obtain ⟨A', c', rfl⟩ := RowHas.form hF
  exact ⟨A', c', rfl, h⟩
theorem Sat.hasRo {cs : List Value} {x : α} (h : Sat w0 w Γ) (i : Nat) (hi : Γ[i]? = some (.ro e cs x)) : ∃ F, e.has w F cs x := (h.pull i hi).readRo
theorem Sat.hasOwn {cs : List Value} {x : α} (h : Sat w0 w Γ) (i : Nat) (hi : Γ[i]? = some (.own e cs x)) : ∃ F, e.has w F cs x := (h.pull i hi).readOwn e
theorem Sat.formW {v : Value} {xs : List α} (h : Sat w0 w Γ) (i : Nat) (hi : Γ[i]? = some (.own e.slice [v] xs)) : ∃ A c, v = .slice A xs.length c := by
  obtain ⟨F, hF⟩ := h.hasOwn i hi
  obtain ⟨A, n, c, rfl, rfl, _⟩ := SliceHas.form hF
  exact ⟨A, c, rfl⟩
/-- A datum of one's own, to be changed in place. -/
theorem Sat.markAt {cs : List Value} {x : α} (h : Sat w0 w Γ) (i : Nat) (hi : Γ[i]? = some (.own e cs x)) :
    ∃ F, e.has w F cs x ∧ Good w F ∧ ∀ w' x', e.has w' F cs x' → Good w' F → Mod F w w' → Sat w0 w' (Γ.set i (.own e cs x')) := by
  obtain ⟨R, O, hO, hG, hR, hRl, hfin⟩ := Sat.opened (Γ1 := [.own e cs x]) (h.pull i hi)
  obtain ⟨O1, O2, rfl, k1, rfl⟩ := hO
  refine ⟨O1, k1, hG.left, fun w' x' h1 h2 h3 => ?_⟩
  exact Sat.perm (hfin w' [.own e cs x'] O1 ⟨O1, [], by simp, h1, rfl⟩ h2 (fun g hg => .inl (by simp [hg])) (h3.mono (fun g hg _ => by simp [hg]))) (perm_set i hi)
theorem Fresh.mod0 {cs : List Value} {x : α} {w' : World} (h : Fresh e w w' cs x) : Mod [] w w' := by
  obtain ⟨F, _, _, _, h4⟩ := h
  exact h4
theorem Fresh.weak {e' : Rep α} [hs : Sub e e'] {cs : List Value} {x : α} {w' : World} (h : Fresh e w w' cs x) : Fresh e' w w' cs x := by
  obtain ⟨F, h1, h2, h3, h4⟩ := h
  exact ⟨F, hs.imp h1, h2, h3, h4⟩
theorem append_same {β : Type} {a b c d : List β} (h : a ++ b = c ++ d) (hl : a.length = c.length) : a = c ∧ b = d := List.append_inj h hl
/-- Two results in new memory. -/
theorem Sat.fresh2 {β : Type} {b : Rep β} {c1 c2 : List Value} {x : α} {y : β} {w' : World} (h : Sat w0 w Γ) (hx : Fresh (e.pair b) w w' (c1 ++ c2) (x, y)) (hl : c1.length = e.size) : Sat w0 w' (.own e c1 x :: .own b c2 y :: Γ) := by
  obtain ⟨d1, d2, he, hd, hS⟩ := (h.fresh hx).split
  obtain ⟨rfl, rfl⟩ := append_same he (by rw [hl, hd])
  exact hS
end
end Go.Proofs.YtnbaekjednmfjaaDoor
end
