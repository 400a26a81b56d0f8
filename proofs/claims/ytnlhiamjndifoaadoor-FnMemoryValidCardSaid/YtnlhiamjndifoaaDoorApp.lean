/- Slices that a call builds by append (Bld). No function of the program occurs here. -/
import Derived.Test.YtnlhiamjndifoaaDoorMem
namespace Go.Proofs.YtnlhiamjndifoaaDoor
open Go.RowKit

/-- A slice value that the call itself has built (nil, or at the head of a row of its own from block B on); F: the blocks of its elements. -/
def Bld {α : Type} (e : Rep α) (E : TypeId) (B : Nat) (w : World) (v : Value) (xs : List α) (F : List Nat) : Prop :=
  ∃ ces, w.ownsRow B E e.size v xs.length ces ∧ e.all w F ces xs ∧ ∀ g, v.ownBlock = some g → g ∉ F
def ob (v : Value) : List Nat := v.ownBlock.toList

theorem cellsAt_new (w : World) (arr : Array Value) (t : TypeId) : CellsAt (w.alloc (.cells arr t)) ⟨w.heap.size, 0, none⟩ arr.toList := by
  intro j u hu
  rw [Addr.add_lit, Nat.zero_add, cell_of_row _ _ _ arr t (0, 0) (heap_alloc_new w _)]
  simpa using hu
theorem cellsAt_new' (w : World) (arr : Array Value) (t : TypeId) (n : Nat) (hn : w.heap.size = n) : CellsAt (w.alloc (.cells arr t)) ⟨n, 0, none⟩ arr.toList := by subst hn; exact cellsAt_new w arr t

section
variable {α : Type} {e : Rep α} {E : TypeId} {B : Nat} {w w' : World} {v : Value} {xs : List α} {F G : List Nat}
theorem Bld.nil (w : World) : Bld e E B w (.slice none 0 0) [] [] := ⟨[], World.ownsRow_nil w B E e.size, ⟨rfl, rfl⟩, by simp [Value.ownBlock]⟩
theorem Bld.lt (h : Bld e E B w v xs F) : ∀ g ∈ F, g < w.heap.size := by
  obtain ⟨ces, _, h2, _⟩ := h
  exact Rep.all_lt h2
theorem Bld.own (h : Bld e E B w v xs F) : ∀ g, v.ownBlock = some g → B ≤ g ∧ g < w.heap.size := by
  obtain ⟨ces, h1, _, _⟩ := h
  exact h1.lt
theorem Bld.own_le (h : Bld e E B w v xs F) : ∀ g ∈ ob v, B ≤ g ∧ g < w.heap.size := by
  intro g hg
  exact h.own g (by simpa [ob, Option.mem_toList] using hg)
theorem Bld.form (h : Bld e E B w v xs F) : ∃ A cap, v = .slice A xs.length cap := by
  obtain ⟨ces, h1, _, _⟩ := h
  rcases h1.2 with ⟨rfl, hn⟩ | ⟨g, cap, cur, rfl, _⟩
  · rw [hn]; exact ⟨none, 0, rfl⟩
  · exact ⟨_, cap, rfl⟩
theorem Bld.mod (h : Bld e E B w v xs F) (hm : Mod G w w') (hd : ∀ g ∈ ob v ++ F, g ∉ G) : Bld e E B w' v xs F := by
  obtain ⟨ces, h1, h2, h3⟩ := h
  refine ⟨ces, ⟨h1.1, ?_⟩, Rep.all_keep h2 (fun g hg => hm.block g (Rep.all_lt h2 g hg) (hd g (by simp [hg]))), h3⟩
  rcases h1.2 with hn | ⟨g, cap, cur, rfl, hb, hh, r⟩
  · exact .inl hn
  · exact .inr ⟨g, cap, cur, rfl, hb, by rw [hm.block g (Array.getElem?_eq_some_iff.1 hh).1 (hd g (by simp [ob, Value.ownBlock]))]; exact hh, r⟩
theorem Bld.mod0 (h : Bld e E B w v xs F) (hm : Mod [] w w') : Bld e E B w' v xs F := h.mod hm (by simp)
theorem Bld.slice (h : Bld e E B w v xs F) : SliceHas e w (ob v ++ F) [v] xs := by
  obtain ⟨ces, h1, h2, h3⟩ := h
  rcases h1.2 with ⟨rfl, hn⟩ | ⟨g, cap, cur, rfl, hb, hh, hnc, hcm, hcs, ht⟩
  · have hx : xs = [] := List.eq_nil_of_length_eq_zero hn
    subst hx
    rw [h2.1]
    exact SliceHas.nil w
  · refine ⟨_, _, cap, ces, F, rfl, rfl, hnc, hcm, h2, .inr ⟨_, rfl, rfl, (Array.getElem?_eq_some_iff.1 hh).1, fun j u hu => ?_⟩⟩
    exact h1.cells (g := g) rfl j u hu
theorem Bld.good (h : Bld e E B w v xs F) (hg : Good w F) : Good w (ob v ++ F) := by
  obtain ⟨ces, h1, h2, h3⟩ := h
  rcases h1.2 with ⟨rfl, hn⟩ | ⟨g, cap, cur, rfl, hb, hh, _⟩
  · exact hg
  · refine ⟨List.nodup_cons.2 ⟨h3 g rfl, hg.1⟩, fun g' hg' => ?_⟩
    rcases List.mem_cons.1 hg' with rfl | h
    · exact ⟨_, hh, rfl⟩
    · exact hg.2 g' h
theorem Bld.fresh {w0 : World} (h : Bld e E B w v xs F) (hg : Good w F) (hB : w0.heap.size ≤ B) (hF : ∀ g ∈ F, w0.heap.size ≤ g) (hm : Mod [] w0 w) : Fresh e.slice w0 w [v] xs :=
  ⟨ob v ++ F, h.slice, h.good hg, fun g hg => by
    rcases List.mem_append.1 hg with h1 | h1
    · have := (h.own_le g h1).1; omega
    · exact hF g h1, hm⟩
/-- A literal. -/
theorem Bld.lit {arr : Array Value} {n : Nat} (hB : B ≤ w.heap.size) (h : e.all w F arr.toList xs) (hn : xs.length = n) (hm : n ≤ maxLen) :
    Bld e E B (w.alloc (.cells arr E)) (.slice (some ⟨w.heap.size, 0, none⟩) n n) xs F := by
  subst hn
  have hl := Rep.all_len h
  have hs : arr.size = xs.length * e.size := by rw [← hl, Array.length_toList]
  refine ⟨arr.toList, World.ownsRow_lit w arr xs.length hB hm hs, Rep.all_keep h (fun g hg => Below.heap_alloc _ _ _ (Rep.all_lt h g hg)), ?_⟩
  intro g hg hF
  have : g = w.heap.size := by simpa [Value.ownBlock] using hg.symm
  have := Rep.all_lt h g hF
  omega
end

/-- append onto a slice of the call's own. -/
theorem run_app {P : Program} (w : World) {α : Type} (t ty : TypeId)
    (B : Nat) (E : TypeId) (e : Rep α) (z : Value) (bytes : Nat) (ht : P.underlying t = some (.slice E)) (hinfo : (P.info? E).map (fun i => (i.zero, i.size, i.bytes)) = some (some z, e.size, bytes))
    (hzs : z.cells.size = e.size) (hsz : 0 < e.size)
    (v : Value) (xs : List α) (F : List Nat) (hB : Bld e E B w v xs F)
    (ad : Addr) (m c : Nat) (ys : List α) (G : List Nat) (news : List Value) (hys : ys.length = m) (hsrc : e.all w G news ys) (hcells : CellsAt w ad news)
    (hdis : ∀ g, v.ownBlock = some g → g ∉ G) (h63 : xs.length + m ≤ 1073741824) (hbytes : bytes ≤ 100000) (hbase : B ≤ w.heap.size) :
    ∃ v' w', (Builtin.append_ #[t, t] ty #[v, .slice (some ad) m c]).run P w = .ok v' w' ∧ Bld e E B w' v' (xs ++ ys) (F ++ G) ∧ w.grownBy w' v.ownBlock ∧ (v'.ownBlock = v.ownBlock ∨ v'.ownBlock = some w.heap.size) := by
  obtain ⟨i, hi, hz, hsize, hby⟩ := info_parts hinfo
  obtain ⟨ces, h1, h2, h3⟩ := hB
  have hbb : (xs.length + m) * bytes ≤ 140737488355328 := by
    have := Nat.mul_le_mul h63 hbytes
    omega
  obtain ⟨v', w', hrun, hown, hgrow, _, hat⟩ := run_append_own_at (P := P) w B t ty E i z e.size bytes ht hi hz hsize hby hzs hsz v xs.length ces h1 ad m c news (by rw [Rep.all_len hsrc, hys]) hcells (Rep.all_one hsrc) (by unfold maxLen; omega) hbb hbase
  refine ⟨v', w', hrun, ⟨ces ++ news, ?_, ?_, ?_⟩, hgrow, hat⟩
  · rw [List.length_append, hys]; exact hown
  · have hk : ∀ g, g < w.heap.size → some g ≠ v.ownBlock → w'.heap[g]? = w.heap[g]? := fun g hg hne => hgrow.block g hg hne
    exact Rep.all_append (Rep.all_keep h2 (fun g hg => hk g (Rep.all_lt h2 g hg) (fun e => h3 g e.symm hg))) (Rep.all_keep hsrc (fun g hg => hk g (Rep.all_lt hsrc g hg) (fun e => hdis g e.symm hg)))
  · intro g hg hF
    rcases hat with e1 | e1
    · rw [e1] at hg
      rcases List.mem_append.1 hF with h | h
      · exact h3 g hg h
      · exact hdis g hg h
    · rw [e1] at hg
      cases hg
      rcases List.mem_append.1 hF with h | h
      · exact Nat.lt_irrefl _ (Rep.all_lt h2 _ h)
      · exact Nat.lt_irrefl _ (Rep.all_lt hsrc _ h)

section
variable {P : Program} (w : World) {α : Type} {ops : Array Oper} {rest : List Oper} {o : Oper} {a : Act} {Q : Exit → Act → World → Prop} {K : Act → World → Prop} {E' : Prop}
theorem wp_app (s x : Operand) (t : TypeId)
    (ho : o.op = .call { callee := .builtin .append, args := #[s, x], argTypes := #[t, t] })
    (B : Nat) (E : TypeId) (e : Rep α) (z : Value) (bytes : Nat) (ht : P.underlying t = some (.slice E)) (hinfo : (P.info? E).map (fun i => (i.zero, i.size, i.bytes)) = some (some z, e.size, bytes))
    (hzs : z.cells.size = e.size) (hsz : 0 < e.size)
    (v : Value) (xs : List α) (F : List Nat) (hs : a.eval s = v) (hB : Bld e E B w v xs F)
    (ad : Addr) (m c : Nat) (ys : List α) (G : List Nat) (news : List Value) (hx : a.eval x = .slice (some ad) m c) (hys : ys.length = m) (hsrc : e.all w G news ys) (hcells : CellsAt w ad news)
    (hdis : ∀ g, v.ownBlock = some g → g ∉ G) (h63 : xs.length + m ≤ 1073741824) (hbytes : bytes ≤ 100000) (hbase : B ≤ w.heap.size)
    (h : ∀ v' w', Bld e E B w' v' (xs ++ ys) (F ++ G) → w.grownBy w' v.ownBlock → (v'.ownBlock = v.ownBlock ∨ v'.ownBlock = some w.heap.size) → K (a.put o.dst v') w') : o.wp P a w K Q := by
  obtain ⟨v', w', hr, h2, h3, h4⟩ := run_app (P := P) w t o.type B E e z bytes ht hinfo hzs hsz v xs F hB ad m c ys G news hys hsrc hcells hdis h63 hbytes hbase
  unfold Oper.wp execOp
  simp only [ho, resolve, invoke, builtin, Sem.run_bind, Sem.run_pure, Result.andThen_ok, List.map_toArray, List.map_cons, List.map_nil, hs, hx, hr]
  exact h v' w' h2 h3 h4
theorem wpList_app (hgd : o.guard = none) (s x : Operand) (t : TypeId)
    (ho : o.op = .call { callee := .builtin .append, args := #[s, x], argTypes := #[t, t] })
    (B : Nat) (E : TypeId) (e : Rep α) (z : Value) (bytes : Nat) (ht : P.underlying t = some (.slice E)) (hinfo : (P.info? E).map (fun i => (i.zero, i.size, i.bytes)) = some (some z, e.size, bytes))
    (hzs : z.cells.size = e.size) (hsz : 0 < e.size)
    (v : Value) (xs : List α) (F : List Nat) (hs : a.eval s = v) (hB : Bld e E B w v xs F)
    (ad : Addr) (m c : Nat) (ys : List α) (G : List Nat) (news : List Value) (hx : a.eval x = .slice (some ad) m c) (hys : ys.length = m) (hsrc : e.all w G news ys) (hcells : CellsAt w ad news)
    (hdis : ∀ g, v.ownBlock = some g → g ∉ G) (h63 : xs.length + m ≤ 1073741824) (hbytes : bytes ≤ 100000) (hbase : B ≤ w.heap.size)
    (h : ∀ v' w', Bld e E B w' v' (xs ++ ys) (F ++ G) → w.grownBy w' v.ownBlock → (v'.ownBlock = v.ownBlock ∨ v'.ownBlock = some w.heap.size) → wpList P ops Q rest (a.put o.dst v') w') :
    wpList P ops Q (o :: rest) a w :=
  wpList_plain hgd fun _ hK => wp_app w s x t ho B E e z bytes ht hinfo hzs hsz v xs F hs hB ad m c ys G news hx hys hsrc hcells hdis h63 hbytes hbase fun v' w' h2 h3 h4 => hK _ _ (h v' w' h2 h3 h4)
theorem step_app (hgd : o.guard = none) (s x : Operand) (t : TypeId)
    (ho : o.op = .call { callee := .builtin .append, args := #[s, x], argTypes := #[t, t] })
    (B : Nat) (E : TypeId) (e : Rep α) (z : Value) (bytes : Nat) (ht : P.underlying t = some (.slice E)) (hinfo : (P.info? E).map (fun i => (i.zero, i.size, i.bytes)) = some (some z, e.size, bytes))
    (hzs : z.cells.size = e.size) (hsz : 0 < e.size)
    (v : Value) (xs : List α) (F : List Nat) (hs : a.eval s = v) (hB : Bld e E B w v xs F)
    (ad : Addr) (m c : Nat) (ys : List α) (G : List Nat) (news : List Value) (hx : a.eval x = .slice (some ad) m c) (hys : ys.length = m) (hsrc : e.all w G news ys) (hcells : CellsAt w ad news)
    (hdis : ∀ g, v.ownBlock = some g → g ∉ G) (h63 : xs.length + m ≤ 1073741824) (hbytes : bytes ≤ 100000) (hbase : B ≤ w.heap.size)
    (h : ∀ v' w', Bld e E B w' v' (xs ++ ys) (F ++ G) → w.grownBy w' v.ownBlock → (v'.ownBlock = v.ownBlock ∨ v'.ownBlock = some w.heap.size) → K (a.put o.dst v') w') :
    if Region.wanted o (yielded ops a.tmps) = true then Oper.wp P o a w K Q else E' := by
  have hw : Region.wanted o (yielded ops a.tmps) = true := by simp [Region.wanted, hgd]
  rw [if_pos hw]
  exact wp_app w s x t ho B E e z bytes ht hinfo hzs hsz v xs F hs hB ad m c ys G news hx hys hsrc hcells hdis h63 hbytes hbase h
end
theorem Mod.bld {w0 w w' : World} {v : Value} (h : Mod [] w0 w) (hg : w.grownBy w' v.ownBlock) (hb : ∀ g, v.ownBlock = some g → w0.heap.size ≤ g) : Mod [] w0 w' :=
  h.grown hg (fun g hr hl => absurd hl (by have := hb g hr; omega))
end Go.Proofs.YtnlhiamjndifoaaDoor
