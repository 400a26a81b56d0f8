/- Facts found by the thing they speak of: rules of the walk without numbers. No function of the program occurs here. -/
import Derived.Test.YthabgnhedmepjaaDoorDraw
namespace Go.Proofs.YthabgnhedmepjaaDoor
open Go.RowKit

/-- Fact number i of Γ is the box b. -/
class BoxAt (Γ : List Fact) (b : Nat) (cs : outParam (List Value)) (i : outParam Nat) : Prop where
  get : Γ[i]? = some (.box b cs)
instance (priority := high) BoxAt.here (Γ : List Fact) (b : Nat) (cs : List Value) : BoxAt (.box b cs :: Γ) b cs 0 := ⟨rfl⟩
instance (priority := low) BoxAt.there (f : Fact) (Γ : List Fact) (b : Nat) (cs : List Value) (i : Nat) [h : BoxAt Γ b cs i] : BoxAt (f :: Γ) b cs (i + 1) := ⟨by simpa using h.get⟩
/-- Fact number i of Γ says what lies at ad. -/
class CellsIn (Γ : List Fact) (ad : Addr) (cs : outParam (List Value)) (i : outParam Nat) : Prop where
  get : Γ[i]? = some (.at ad cs)
instance (priority := high) CellsIn.here (Γ : List Fact) (ad : Addr) (cs : List Value) : CellsIn (.at ad cs :: Γ) ad cs 0 := ⟨rfl⟩
instance (priority := low) CellsIn.there (f : Fact) (Γ : List Fact) (ad : Addr) (cs : List Value) (i : Nat) [h : CellsIn Γ ad cs i] : CellsIn (f :: Γ) ad cs (i + 1) := ⟨by simpa using h.get⟩
/-- Fact number i of Γ is a datum of one's own in the cells cs. -/
class OwnIn {α : Type} (Γ : List Fact) (e : Rep α) (cs : List Value) (x : outParam α) (i : outParam Nat) : Prop where
  get : Γ[i]? = some (.own e cs x)
instance (priority := high) OwnIn.here {α : Type} (Γ : List Fact) (e : Rep α) (cs : List Value) (x : α) : OwnIn (.own e cs x :: Γ) e cs x 0 := ⟨rfl⟩
instance (priority := low) OwnIn.there {α : Type} (f : Fact) (Γ : List Fact) (e : Rep α) (cs : List Value) (x : α) (i : Nat) [h : OwnIn Γ e cs x i] : OwnIn (f :: Γ) e cs x (i + 1) := ⟨by simpa using h.get⟩
/-- Fact number i of Γ is a datum that nobody writes in the cells cs. -/
class RoIn {α : Type} (Γ : List Fact) (e : Rep α) (cs : List Value) (x : outParam α) (i : outParam Nat) : Prop where
  get : Γ[i]? = some (.ro e cs x)
instance (priority := high) RoIn.here {α : Type} (Γ : List Fact) (e : Rep α) (cs : List Value) (x : α) : RoIn (.ro e cs x :: Γ) e cs x 0 := ⟨rfl⟩
instance (priority := low) RoIn.there {α : Type} (f : Fact) (Γ : List Fact) (e : Rep α) (cs : List Value) (x : α) (i : Nat) [h : RoIn Γ e cs x i] : RoIn (f :: Γ) e cs x (i + 1) := ⟨by simpa using h.get⟩
/-- Some fact of Γ reads as e in the cells cs. -/
class HasIn {α : Type} (Γ : List Fact) (e : Rep α) (cs : List Value) (x : outParam α) : Prop where
  has : ∀ {w0 w : World}, Sat w0 w Γ → ∃ F, e.has w F cs x
instance (priority := high) HasIn.own {α : Type} (Γ : List Fact) (e e' : Rep α) [Sub e' e] (cs : List Value) (x : α) : HasIn (.own e' cs x :: Γ) e cs x := ⟨fun h => h.readOwn e⟩
instance (priority := high) HasIn.ro {α : Type} (Γ : List Fact) (e e' : Rep α) [k : Sub e' e] (cs : List Value) (x : α) : HasIn (.ro e' cs x :: Γ) e cs x := ⟨fun h => let ⟨F, hF⟩ := h.readRo; ⟨F, k.imp hF⟩⟩
instance (priority := low) HasIn.there {α : Type} (f : Fact) (Γ : List Fact) (e : Rep α) (cs : List Value) (x : α) [h : HasIn Γ e cs x] : HasIn (f :: Γ) e cs x := ⟨fun h' => h.has h'.drop⟩

section
variable {P : Program} {o : Oper} {a : Act} {w w0 w' : World} {K : Act → World → Prop} {Q : Exit → Act → World → Prop} {ops : Array Oper} {rest : List Oper} {Γ : List Fact} {α : Type} {e : Rep α}
theorem Sat.has (e : Rep α) (cs : List Value) {x : α} (h : Sat w0 w Γ) [k : HasIn Γ e cs x] : ∃ F, e.has w F cs x := k.has h
theorem f_load {T : TypeId} {z : Value} {p : Operand} {b off i : Nat} {cs : List Value} {u : Value} (hS : Sat w0 w Γ) (ho : o.op = .load T p) (hp : a.eval p = .pointer (some ⟨b, off, none⟩)) [hi : BoxAt Γ b cs i] [hT : Ty P T z 1 false] (hu : cs[off]? = some u) : Gives P o a w u :=
  does_load i hS ho hp hi.get hu
theorem f_loadS {T : TypeId} {z : Value} {p : Operand} {b n i : Nat} {cs : List Value} (hS : Sat w0 w Γ) (ho : o.op = .load T p) (hp : a.eval p = .pointer (some ⟨b, 0, none⟩)) [hi : BoxAt Γ b cs i] [hT : Ty P T z n true] (hl : cs.length = n) : Gives P o a w (.agg cs.toArray) :=
  does_loadS i hS ho hp hi.get hl
theorem f_loadAt {T : TypeId} {z : Value} {p : Operand} {ad : Addr} {u : Value} {cs : List Value} {i : Nat} (hS : Sat w0 w Γ) (ho : o.op = .load T p) (hp : a.eval p = .pointer (some ad)) [hi : CellsIn Γ ad (u :: cs) i] [hT : Ty P T z 1 false] : Gives P o a w u :=
  does_loadAt i hS ho hp hi.get
theorem f_loadAtS {T : TypeId} {z : Value} {p : Operand} {ad : Addr} {n i : Nat} {cs : List Value} (hS : Sat w0 w Γ) (ho : o.op = .load T p) (hp : a.eval p = .pointer (some ad)) [hi : CellsIn Γ ad cs i] [hT : Ty P T z n true] (hl : cs.length = n) : Gives P o a w (.agg cs.toArray) :=
  does_loadAtS i hS ho hp hi.get hl
theorem f_loadAtF {T : TypeId} {z : Value} {p : Operand} {ad : Addr} {j i : Nat} {u : Value} {cs : List Value} (hS : Sat w0 w Γ) (ho : o.op = .load T p) (hp : a.eval p = .pointer (some ⟨ad.block, ad.off + (j + 1), none⟩)) [hi : CellsIn Γ ad cs i] [hT : Ty P T z 1 false] (hu : cs[j + 1]? = some u) : Gives P o a w u :=
  does_loadAtF i hS ho hp hi.get hu
theorem f_store {T : TypeId} {z : Value} {p x : Operand} {b off i : Nat} {cs : List Value} {u old : Value} (hS : Sat w0 w Γ) (ho : o.op = .store T p x) (hp : a.eval p = .pointer (some ⟨b, off, none⟩)) (hx : a.eval x = u) [hi : BoxAt Γ b cs i] [hT : Ty P T z 1 false] (hu : u.oneCell' = true) (hold : cs[off]? = some old) :
    Does P o a w (fun v w' => v = undef ∧ Sat w0 w' (Γ.set i (.box b (cs.set off u)))) := does_store i hS ho hp hx hi.get hu hold
theorem f_storeS {T : TypeId} {z : Value} {p x : Operand} {b n i : Nat} {cs : List Value} {us : Array Value} (hS : Sat w0 w Γ) (ho : o.op = .store T p x) (hp : a.eval p = .pointer (some ⟨b, 0, none⟩)) (hx : a.eval x = .agg us) [hi : BoxAt Γ b cs i] [hT : Ty P T z n true] (h1' : us.toList.all (·.oneCell') = true) (hn : us.size = n) (hl : cs.length = n) :
    Does P o a w (fun v w' => v = undef ∧ Sat w0 w' (Γ.set i (.box b us.toList))) := does_storeS i hS ho hp hx hi.get h1' hn hl
theorem f_append {T E : TypeId} {z : Value} {by_ : Nat} {ag : Bool} {s x : Operand} {A : Option Addr} {n c m m' b sz i : Nat} {news : List Value} {xs ys : List α} (e : Rep α) (hS : Sat w0 w (.own (e.vec m) news ys :: .box b news :: Γ))
    (ho : o.op = .call { callee := .builtin .append, args := #[s, x], argTypes := #[T, T] }) (hs : a.eval s = .slice A n c) (hx : a.eval x = .slice (some ⟨b, 0, none⟩) m m')
    [hi : OwnIn Γ e.rows [.slice A n c] xs i] [hT : SlTy P T E] [hE : Ty P E z sz ag] [hB : ByTy P E by_] (hsz : sz = e.size) (hzs : z.cells.size = sz) (hby : by_ ≤ 100000) (h30 : n + m ≤ 1073741824) :
    Does P o a w (fun v w' => ∃ A' c', v = .slice A' (n + m) c' ∧ Sat w0 w' (Γ.set i (.own e.rows [.slice A' (n + m) c'] (xs ++ ys)))) := does_append i hS ho hs hx hi.get hsz hzs hby h30
theorem f_appendFlat {T E : TypeId} {z : Value} {by_ : Nat} {ag : Bool} {s x : Operand} {A A2 : Option Addr} {n c m c2 sz i : Nat} {xs ys : List α} (e e' : Rep α) [hf : Flat e' e] (hS : Sat w0 w Γ)
    (ho : o.op = .call { callee := .builtin .append, args := #[s, x], argTypes := #[T, T] }) (hs : a.eval s = .slice A n c) (hx : a.eval x = .slice A2 m c2) [hy : HasIn Γ e'.slice [.slice A2 m c2] ys]
    [hi : OwnIn Γ e.rows [.slice A n c] xs i] [hT : SlTy P T E] [hE : Ty P E z sz ag] [hB : ByTy P E by_] (hs' : e'.size = e.size) (hsz : sz = e.size) (hzs : z.cells.size = sz) (hby : by_ ≤ 100000) (h30 : n + m ≤ 1073741824) :
    Does P o a w (fun v w' => ∃ A' c', v = .slice A' (n + m) c' ∧ Sat w0 w' (Γ.set i (.own e.rows [.slice A' (n + m) c'] (xs ++ ys)))) := does_appendFlat i hS e' (hy.has hS) hs' ho hs hx hi.get hsz hzs hby h30
theorem f_appendRow {T E : TypeId} {z : Value} {by_ : Nat} {ag : Bool} {s x : Operand} {A A2 : Option Addr} {n c m c2 sz i : Nat} {xs ys : List α} (e : Rep α) (hS : Sat w0 w (.own e.rows [.slice A2 m c2] ys :: Γ))
    (ho : o.op = .call { callee := .builtin .append, args := #[s, x], argTypes := #[T, T] }) (hs : a.eval s = .slice A n c) (hx : a.eval x = .slice A2 m c2)
    [hi : OwnIn Γ e.rows [.slice A n c] xs i] [hT : SlTy P T E] [hE : Ty P E z sz ag] [hB : ByTy P E by_] (hsz : sz = e.size) (hzs : z.cells.size = sz) (hby : by_ ≤ 100000) (h30 : n + m ≤ 1073741824) :
    Does P o a w (fun v w' => ∃ A' c', v = .slice A' (n + m) c' ∧ Sat w0 w' (Γ.set i (.own e.rows [.slice A' (n + m) c'] (xs ++ ys)))) := does_appendRow i hS ho hs hx hi.get hsz hzs hby h30
theorem f_loadRow {T : TypeId} {z : Value} {p : Operand} {g off n c k i : Nat} {xs : List Int} {x : Int} (hS : Sat w0 w Γ) (ho : o.op = .load T p) (hp : a.eval p = .pointer (some ⟨g, off + k, none⟩)) [hi : OwnIn Γ Rep.int.rows [.slice (some ⟨g, off, none⟩) n c] xs i] [hT : Ty P T z 1 false] (hx : xs[k]? = some x) : Gives P o a w (.int .i64 x) := by
  obtain ⟨⟨u, Fu, hc, -, hu, -⟩, -⟩ := hS.rowCell i hi.get rfl hx
  simp only [List.cons.injEq, and_true] at hu
  subst hu
  unfold Gives execOp
  simp [ho, hp, run_load1 hT hc]
/-- A datum of one's own to the front. -/
theorem Sat.front (e : Rep α) (cs : List Value) {x : α} {i : Nat} (h : Sat w0 w Γ) [hi : OwnIn Γ e cs x i] : Sat w0 w (.own e cs x :: Γ.eraseIdx i) := h.pull i hi.get
theorem Sat.mark (e : Rep α) (cs : List Value) {x : α} {i : Nat} (h : Sat w0 w Γ) [hi : OwnIn Γ e cs x i] : ∃ F, e.has w F cs x ∧ Good w F ∧ ∀ w' x', e.has w' F cs x' → Good w' F → Mod F w w' → Sat w0 w' (Γ.set i (.own e cs x')) := h.markAt i hi.get
variable {n c k i : Nat}
/-- Element k of a slice that nobody writes, found by its header. -/
theorem Sat.elInt {xs : List Int} (A : Option Addr) (n c : Nat) (h : Sat w0 w Γ) [hi : RoIn Γ Rep.int.slice [.slice A n c] xs i] {x : Int} (hx : xs[k]? = some x) : ∃ ad, A = some ad ∧ I64 x ∧ Sat w0 w (.at (ad.add k) [.int .i64 x] :: Γ) := h.elemInt i hi.get hx
theorem Sat.elBool {xs : List Bool} (A : Option Addr) (n c : Nat) (h : Sat w0 w Γ) [hi : RoIn Γ Rep.bool.slice [.slice A n c] xs i] {x : Bool} (hx : xs[k]? = some x) : ∃ ad, A = some ad ∧ Sat w0 w (.at (ad.add k) [.bool x] :: Γ) := h.elemBool i hi.get hx
theorem Sat.elStr {xs : List ByteArray} (A : Option Addr) (n c : Nat) (h : Sat w0 w Γ) [hi : RoIn Γ Rep.str.slice [.slice A n c] xs i] {x : ByteArray} (hx : xs[k]? = some x) : ∃ ad, A = some ad ∧ x.size ≤ maxLen ∧ Sat w0 w (.at (ad.add k) [.string x] :: Γ) := h.elemStr i hi.get hx
theorem Sat.elU8 {xs : List UInt8} (A : Option Addr) (n c : Nat) (h : Sat w0 w Γ) [hi : RoIn Γ Rep.u8.slice [.slice A n c] xs i] {x : UInt8} (hx : xs[k]? = some x) : ∃ ad, A = some ad ∧ Sat w0 w (.at (ad.add k) [.int .u8 x.toNat] :: Γ) := h.elemU8 i hi.get hx
theorem Sat.elSlice {xs : List (List α)} (e : Rep α) (A : Option Addr) (n c : Nat) (h : Sat w0 w Γ) [hi : RoIn Γ e.slice.slice [.slice A n c] xs i] {x : List α} (hx : xs[k]? = some x) :
    ∃ ad A' c', A = some ad ∧ x.length ≤ c' ∧ c' ≤ maxLen ∧ Sat w0 w (.at (ad.add k) [.slice A' x.length c'] :: .ro e.slice [.slice A' x.length c'] x :: Γ) := h.elemSlice i hi.get hx
theorem Sat.el {xs : List α} (e : Rep α) (A : Option Addr) (n c : Nat) (h : Sat w0 w Γ) [hi : RoIn Γ e.slice [.slice A n c] xs i] {x : α} (hx : xs[k]? = some x) :
    ∃ ad ck, A = some ad ∧ ck.length = e.size ∧ Sat w0 w (.at (ad.add (k * e.size)) ck :: .ro e ck x :: Γ) := h.elem i hi.get hx
end
end Go.Proofs.YthabgnhedmepjaaDoor
