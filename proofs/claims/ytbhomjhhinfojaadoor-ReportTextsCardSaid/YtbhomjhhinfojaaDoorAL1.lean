/- What Go functions compute, without memory: an evaluator of the program's own operations, and that it is sound (part 1). -/
import Derived.RangeFuncLeaves
import Derived.RangeFuncNested
import Derived.OrdersIn
import Derived.Maps.AppendAt
import Derived.Below
import Derived.LoopNIn
import Derived.Laws.CopyRow
import Derived.Laws.Cells
import Derived.Laws.Small
import Derived.Deep.AppendSrc
import Derived.Deep.Upon
import Derived.MapKept
import Derived.Laws.BytesString
import Derived.Laws.MakeOwn
namespace Go.Proofs.AL
open Go Go.RowKit

/-! ## Values without memory -/
inductive AV where
  | int (k : IntKind) (n : Int)
  | bool (b : Bool)
  | str (s : ByteArray)
  | agg (cs : List AV)
  | tup (vs : List AV)
  | sl (tok : Nat) (xs : List (List AV))
  | cptr (cs : List AV)
  | ptr (id off : Nat)
  | nilp
  | fn (f : Fn) (first cap : List AV)
  | nilf
  | own (t n : Nat)
  | eptr (t j off sz : Nat)
  | mp (id : Nat)
  | nilm
  | mpo (ks vs : List AV)
  | ifc (t : TypeId) (x : AV)
  | nili
  | opq
  | tp (id : Nat) (T : TypeId) (n : Nat) (used : Bool)
  deriving Inhabited
/-- What a token names: a row whose elements stay (it may be appended to); or a row that is written to, and what it holds. -/
inductive Tk where
  | ty (e : TypeId)
  | row (e : TypeId) (xs : List (List AV))

/-- A value's cells. -/
def AV.cells : AV → List AV
  | .agg cs => cs
  | v => [v]

/-- What is told of the memory beside it: m: how many of a block's cells stay as they are for good; blk: where the own variables lie; tk: what a row's token names. -/
structure Gh where
  m : Nat → Nat
  blk : List Nat
  tk : Nat → Option Value

def nilSl : Value := .slice none 0 0
def IsCells (w : World) (b : Nat) : Prop := ∃ (cur : Array Value) (T : TypeId) (q : Nat × Nat), w.heap[b]? = some (.cells cur T q)
/-- A block's type, and how many cells it has. -/
def CellsOf (w : World) (x : Nat × TypeId × Nat) : Prop := ∃ (cur : Array Value) (q : Nat × Nat), w.heap[x.1]? = some (.cells cur x.2.1 q) ∧ cur.size = x.2.2
def IsMap (w : World) (b : Nat) : Prop := ∃ (es : Array MapEntry) (c : Nat), w.heap[b]? = some (.map es c)

inductive V (G : Gh) (w : World) : AV → Value → Prop
  | int (k : IntKind) (n : Int) : V G w (.int k n) (.int k n)
  | bool (b : Bool) : V G w (.bool b) (.bool b)
  | str (s : ByteArray) : V G w (.str s) (.string s)
  | agg {cs : List AV} {vs : Array Value} : cs.length = vs.size → (∀ (i : Nat) (c : AV), cs[i]? = some c → ∀ v, vs[i]? = some v → V G w c v) → (∀ (i : Nat) (v : Value), vs[i]? = some v → v.oneCell' = true) → V G w (.agg cs) (.agg vs)
  | tup {cs : List AV} {vs : Array Value} : cs.length = vs.size → (∀ (i : Nat) (c : AV), cs[i]? = some c → ∀ v, vs[i]? = some v → V G w c v) → V G w (.tup cs) (.tuple vs)
  | sl0 {t : Nat} {A : Option Addr} {c : Nat} : (t = 0 ∨ (t = 2 ∧ c = 0) ∨ (t ≠ 2 ∧ G.tk t = some (.slice A 0 c))) → V G w (.sl t []) (.slice A 0 c)
  | sl {t : Nat} {xs : List (List AV)} {b o n c sz : Nat} (f : Nat → Nat → Value) : 0 < n → n = xs.length → n ≤ c → c ≤ maxLen → 0 < sz → (∀ el ∈ xs, el.length = sz) →
      (t = 0 ∨ (t = 2 ∧ c = n) ∨ (t ≠ 2 ∧ G.tk t = some (.slice (some ⟨b, o, none⟩) n c))) →
      (∀ (j i : Nat) (el : List AV) (x : AV), xs[j]? = some el → el[i]? = some x → o + (j * sz + i) < G.m b ∧ w.cell? ⟨b, o + (j * sz + i), none⟩ = some (f j i) ∧ (f j i).oneCell' = true) →
      (∀ (j i : Nat) (el : List AV) (x : AV), xs[j]? = some el → el[i]? = some x → V G w x (f j i)) → V G w (.sl t xs) (.slice (some ⟨b, o, none⟩) n c)
  | cptr {cs : List AV} {b o : Nat} (f : Nat → Value) : (∀ (i : Nat) (x : AV), cs[i]? = some x → o + i < G.m b ∧ w.cell? ⟨b, o + i, none⟩ = some (f i) ∧ (f i).oneCell' = true) →
      (∀ (i : Nat) (x : AV), cs[i]? = some x → V G w x (f i)) → V G w (.cptr cs) (.pointer (some ⟨b, o, none⟩))
  | ptr {id off b : Nat} : G.blk[id]? = some b → IsCells w b → V G w (.ptr id off) (.pointer (some ⟨b, off, none⟩))
  | nilp : V G w .nilp (.pointer none)
  | fn {f : Fn} {first cap : List AV} {vs us : Array Value} : first.length = vs.size → cap.length = us.size → (∀ (i : Nat) (c : AV), first[i]? = some c → ∀ v, vs[i]? = some v → V G w c v) →
      (∀ (i : Nat) (c : AV), cap[i]? = some c → ∀ v, us[i]? = some v → V G w c v) → V G w (.fn f first cap) (.func f vs us)
  | nilf : V G w .nilf .nilFunc
  | own {t n c : Nat} {A : Option Addr} : (n = 0 ∨ ∃ g, A = some ⟨g, 0, none⟩) → G.tk t = some (.slice A n c) → V G w (.own t n) (.slice A n c)
  | eptr {t j off sz g n c : Nat} : G.tk t = some (.slice (some ⟨g, 0, none⟩) n c) → V G w (.eptr t j off sz) (.pointer (some ⟨g, j * sz + off, none⟩))
  | mp {id b : Nat} : G.blk[id]? = some b → IsMap w b → V G w (.mp id) (.map (some b))
  | nilm : V G w .nilm (.map none)
  | ifc {t : TypeId} {x : AV} {v : Value} : V G w x v → V G w (.ifc t x) (.iface t v)
  | nili : V G w .nili .nilIface
  | opq {v : Value} : v.oneCell' = true → V G w .opq v
  | tp0 {id b n : Nat} {T : TypeId} : G.blk[id]? = some b → CellsOf w (b, T, n) → V G w (.tp id T n false) (.pointer none)
  | tp1 {id b n : Nat} {T : TypeId} : G.blk[id]? = some b → CellsOf w (b, T, n) → V G w (.tp id T n true) (.pointer (some ⟨b, 0, none⟩))

/-- Later: what stays, stays; the variables lie where they lay; tokens name what they named. -/
structure Mo (G : Gh) (w : World) (G' : Gh) (w' : World) : Prop where
  cell : ∀ (b o : Nat) (v : Value), o < G.m b → w.cell? ⟨b, o, none⟩ = some v → o < G'.m b ∧ w'.cell? ⟨b, o, none⟩ = some v
  blk : ∀ (i b : Nat), G.blk[i]? = some b → G'.blk[i]? = some b
  tk : ∀ (t : Nat) (v : Value), G.tk t = some v → G'.tk t = some v
  kc : ∀ x, CellsOf w x → CellsOf w' x
  km : ∀ b, IsMap w b → IsMap w' b

theorem Mo.refl (G : Gh) (w : World) : Mo G w G w := ⟨fun _ _ _ h h' => ⟨h, h'⟩, fun _ _ h => h, fun _ _ h => h, fun _ h => h, fun _ h => h⟩
theorem Mo.trans {G1 G2 G3 : Gh} {w1 w2 w3 : World} (h : Mo G1 w1 G2 w2) (k : Mo G2 w2 G3 w3) : Mo G1 w1 G3 w3 :=
  ⟨fun b o v h1 h2 => let ⟨a1, a2⟩ := h.cell b o v h1 h2; k.cell b o v a1 a2, fun i b e => k.blk i b (h.blk i b e), fun t v e => k.tk t v (h.tk t v e), fun b e => k.kc b (h.kc b e), fun b e => k.km b (h.km b e)⟩

theorem Mo.ic {G1 G2 : Gh} {w1 w2 : World} (h : Mo G1 w1 G2 w2) {b : Nat} (k : IsCells w1 b) : IsCells w2 b := by
  obtain ⟨cur, T, q, e⟩ := k
  obtain ⟨cur', q', e', _⟩ := h.kc (b, T, cur.size) ⟨cur, q, e, rfl⟩
  exact ⟨cur', T, q', e'⟩
theorem V.mono {G G' : Gh} {w w' : World} (hm : Mo G w G' w') {x : AV} {v : Value} (h : V G w x v) : V G' w' x v := by
  induction h with
  | int k n => exact .int k n
  | bool b => exact .bool b
  | str s => exact .str s
  | agg hl _ h1 ih => exact .agg hl ih h1
  | tup hl _ ih => exact .tup hl ih
  | sl0 ht => exact .sl0 (ht.imp_right (Or.imp_right (And.imp_right (hm.tk _ _))))
  | sl f h0 hn hc hcm hs he ht hcell _ ih => exact .sl f h0 hn hc hcm hs he (ht.imp_right (Or.imp_right (And.imp_right (hm.tk _ _)))) (fun j i el x hj hi => let ⟨a, b, c⟩ := hcell j i el x hj hi; let ⟨a', b'⟩ := hm.cell _ _ _ a b; ⟨a', b', c⟩) ih
  | cptr f hcell _ ih => exact .cptr f (fun i x hi => let ⟨a, b, c⟩ := hcell i x hi; let ⟨a', b'⟩ := hm.cell _ _ _ a b; ⟨a', b', c⟩) ih
  | ptr hb hk => exact .ptr (hm.blk _ _ hb) (hm.ic hk)
  | nilp => exact .nilp
  | fn h1 h2 _ _ ih1 ih2 => exact .fn h1 h2 ih1 ih2
  | nilf => exact .nilf
  | own h0 ht => exact .own h0 (hm.tk _ _ ht)
  | eptr ht => exact .eptr (hm.tk _ _ ht)
  | mp hb hk => exact .mp (hm.blk _ _ hb) (hm.km _ hk)
  | nilm => exact .nilm
  | ifc _ ih => exact .ifc ih
  | nili => exact .nili
  | opq h => exact .opq h
  | tp0 hb hk => exact .tp0 (hm.blk _ _ hb) (hm.kc _ hk)
  | tp1 hb hk => exact .tp1 (hm.blk _ _ hb) (hm.kc _ hk)
end Go.Proofs.AL
namespace Go.Proofs.AL
open Go Go.RowKit

/-- The program, and what holds of every world behind the call's begin. -/
structure Cx where
  P : Program
  GI : (Nat → Nat) → World → Prop
  st : ∀ (m m' : Nat → Nat) (w w' : World), Below w.heap.size w w' → (∀ b, b < w.heap.size → m' b = m b) → GI m w → GI m' w'
  mixed : P.follows .mixedOrders = true

/-- An activation's begin. -/
structure Env where
  w0 : World
  m0 : Nat → Nat
  G1 : Gh
  w1 : World
  mks : List Nat
def NoCells (o : Obj) : Prop := ∀ (cur : Array Value) (T : TypeId) (q : Nat × Nat), o ≠ .cells cur T q
/-- Blocks of the machine's own stay as they are: loops' records, marks. -/
def Stays (B : Nat) (w : World) (l : Nat) (o : Obj) : Prop := B ≤ l ∧ w.heap[l]? = some o ∧ NoCells o
def MarksOk (B : Nat) (w : World) (ds : List Deferred) : Prop := (∀ d ∈ ds, ∃ D, d = { target := .collected D, args := #[] } ∧ Stays B w D (.deferred (some []))) ∧ ds.Nodup
theorem Stays.below {B l : Nat} {w w' : World} {o : Obj} (h : Stays B w l o) (hb : Below w.heap.size w w') : Stays B w' l o :=
  ⟨h.1, (hb.block l (Array.getElem?_eq_some_iff.1 h.2.1).1).trans h.2.1, h.2.2⟩
theorem MarksOk.below {B : Nat} {w w' : World} {ds : List Deferred} (h : MarksOk B w ds) (hb : Below w.heap.size w w') : MarksOk B w' ds := ⟨fun d hd => let ⟨D, e, k⟩ := h.1 d hd; ⟨D, e, k.below hb⟩, h.2⟩
theorem MarksOk.nil (B : Nat) (w : World) : MarksOk B w [] := ⟨fun _ h => by simp at h, .nil⟩

/-- What an activation has: its temporaries, its own variables in memory, the rows that it may append to. -/
structure AS where
  N : Nat
  tm : Nat → Option AV
  ob : List (List AV)
  live : Nat → Option Tk
  next : Nat
  lp : Nat → Option (Loop × (Nat → Option AV)) := fun _ => none

def AS.put (s : AS) (d : Option Nat) (x : AV) : AS :=
  match d with
  | some d => { s with tm := fun t => if t = d then some x else s.tm t }
  | none => s
def AS.del (s : AS) (d : Option Nat) : AS :=
  match d with
  | some d => { s with tm := fun t => if t = d then none else s.tm t }
  | none => s

def OwnT (C : Cx) (E : Env) (G : Gh) (w : World) (e : TypeId) (v : Value) : Prop :=
  v = nilSl ∨ ∃ (g n c size : Nat) (cur : Array Value), v = .slice (some ⟨g, 0, none⟩) n c ∧ E.w0.heap.size ≤ g ∧ w.heap[g]? = some (.cells cur e (0, 0)) ∧ n ≤ c ∧ c ≤ maxLen ∧
    (C.P.info? e).map (·.size) = some size ∧ 0 < size ∧ cur.size = c * size ∧ G.m g = n * size ∧ (∀ i : Nat, G.blk[i]? ≠ some g)
/-- A row that is written to. -/
def RowT (C : Cx) (E : Env) (G : Gh) (w : World) (e : TypeId) (xs : List (List AV)) (v : Value) : Prop :=
  (v = nilSl ∧ xs = []) ∨ ∃ (g n c size : Nat) (cur : Array Value), v = .slice (some ⟨g, 0, none⟩) n c ∧ E.w0.heap.size ≤ g ∧ w.heap[g]? = some (.cells cur e (0, 0)) ∧ n ≤ c ∧ c ≤ maxLen ∧
    (C.P.info? e).map (·.size) = some size ∧ 0 < size ∧ cur.size = c * size ∧ G.m g = 0 ∧ (∀ i : Nat, G.blk[i]? ≠ some g) ∧ n = xs.length ∧ (∀ el ∈ xs, el.length = size) ∧
    ∀ (j i : Nat) (el : List AV) (x : AV) (u : Value), xs[j]? = some el → el[i]? = some x → cur[j * size + i]? = some u → V G w x u ∧ u.oneCell' = true
def OwnK (C : Cx) (E : Env) (G : Gh) (w : World) : Tk → Value → Prop
  | .ty e, v => OwnT C E G w e v
  | .row e xs, v => RowT C E G w e xs v
theorem OwnK.facts {C : Cx} {E : Env} {G : Gh} {w : World} {k : Tk} {v : Value} (h : OwnK C E G w k v) {g : Nat} (hg : v.ownBlock = some g) : E.w0.heap.size ≤ g ∧ g < w.heap.size ∧ IsCells w g ∧ ∀ i : Nat, G.blk[i]? ≠ some g := by
  cases k with
  | ty e =>
    rcases h with h0 | ⟨g', n, c, size, cur, h2, h3, h4, h5, h6, h7, h8, h9, h10, h11⟩
    · rw [h0] at hg; cases hg
    · rw [h2] at hg
      have hg : g' = g := Option.some.inj hg
      subst hg
      exact ⟨h3, (Array.getElem?_eq_some_iff.1 h4).1, ⟨_, _, _, h4⟩, h11⟩
  | row e xs =>
    rcases h with ⟨h0, _⟩ | ⟨g', n, c, size, cur, h2, h3, h4, h5, h6, h7, h8, h9, h10, h11, h12⟩
    · rw [h0] at hg; cases hg
    · rw [h2] at hg
      have hg : g' = g := Option.some.inj hg
      subst hg
      exact ⟨h3, (Array.getElem?_eq_some_iff.1 h4).1, ⟨_, _, _, h4⟩, h11⟩
theorem OwnK.keep {C : Cx} {E : Env} {G G' : Gh} {w w' : World} {k : Tk} {v : Value} (h : OwnK C E G w k v) (mo : Mo G w G' w') (hk : ∀ g, v.ownBlock = some g → (∀ i : Nat, G.blk[i]? ≠ some g) → g < w.heap.size → w'.heap[g]? = w.heap[g]? ∧ G'.m g = G.m g ∧ ∀ i : Nat, G'.blk[i]? ≠ some g) : OwnK C E G' w' k v := by
  cases k with
  | ty e =>
    rcases h with h0 | ⟨g, n, c, size, cur, h2, h3, h4, h5, h6, h7, h8, h9, h10, h11⟩
    · exact .inl h0
    · obtain ⟨k1, k2, k3⟩ := hk g (by rw [h2]; rfl) h11 (Array.getElem?_eq_some_iff.1 h4).1
      exact .inr ⟨g, n, c, size, cur, h2, h3, k1.trans h4, h5, h6, h7, h8, h9, k2.trans h10, k3⟩
  | row e xs =>
    rcases h with h0 | ⟨g, n, c, size, cur, h2, h3, h4, h5, h6, h7, h8, h9, h10, h11, h12, h13, h14⟩
    · exact .inl h0
    · obtain ⟨k1, k2, k3⟩ := hk g (by rw [h2]; rfl) h11 (Array.getElem?_eq_some_iff.1 h4).1
      exact .inr ⟨g, n, c, size, cur, h2, h3, k1.trans h4, h5, h6, h7, h8, h9, k2.trans h10, k3, h12, h13, fun j i el x u a b d => ⟨(h14 j i el x u a b d).1.mono mo, (h14 j i el x u a b d).2⟩⟩
theorem OwnT.tk {C : Cx} {E : Env} {G : Gh} {w : World} {e : TypeId} {v : Value} (h : OwnT C E G w e v) (k : Nat → Option Value) : OwnT C E { G with tk := k } w e v := h

/-- What an own variable's block holds: cells (behind them may lie more); or a map's entries. -/
def CellsOb (G : Gh) (w : World) (b : Nat) (cs : List AV) : Prop := ∃ (cur : Array Value) (T : TypeId), w.heap[b]? = some (.cells cur T (0, 0)) ∧ cs.length ≤ cur.size ∧ ∀ (k : Nat) (x : AV) (v : Value), cs[k]? = some x → cur[k]? = some v → V G w x v ∧ v.oneCell' = true
def MapOb (G : Gh) (w : World) (b : Nat) (cs : List AV) : Prop := ∃ (ks vs : List AV) (es : Array MapEntry) (clock : Nat), cs = [.mpo ks vs] ∧ w.heap[b]? = some (.map es clock) ∧ es.size = ks.length ∧ vs.length = ks.length ∧
  (∀ (j : Nat) (x : AV) (e : MapEntry), ks[j]? = some x → es[j]? = some e → V G w x e.key) ∧ (∀ (j : Nat) (y : AV) (e : MapEntry), vs[j]? = some y → es[j]? = some e → V G w y e.val) ∧
  (∀ (j : Nat) (e : MapEntry), es[j]? = some e → e.born < clock) ∧ (∀ (i j : Nat) (e f : MapEntry), es[i]? = some e → es[j]? = some f → e.born = f.born → i = j)
def ObOk (G : Gh) (w : World) (b : Nat) (cs : List AV) : Prop := CellsOb G w b cs ∨ MapOb G w b cs
theorem ObOk.mono {G G' : Gh} {w w' : World} {b : Nat} {cs : List AV} (h : ObOk G w b cs) (mo : Mo G w G' w') (hh : w'.heap[b]? = w.heap[b]?) : ObOk G' w' b cs := by
  rcases h with ⟨cur, T, h1, h2, h3⟩ | ⟨ks, vs, es, clock, h1, h2, h3, h4, h5, h6, h7, h8⟩
  · exact .inl ⟨cur, T, hh.trans h1, h2, fun k x v e1 e2 => ⟨(h3 k x v e1 e2).1.mono mo, (h3 k x v e1 e2).2⟩⟩
  · exact .inr ⟨ks, vs, es, clock, h1, hh.trans h2, h3, h4, fun j x e a b => (h5 j x e a b).mono mo, fun j x e a b => (h6 j x e a b).mono mo, h7, h8⟩
theorem ObOk.lt {G : Gh} {w : World} {b : Nat} {cs : List AV} (h : ObOk G w b cs) : b < w.heap.size := by
  rcases h with ⟨_, _, h1, _⟩ | ⟨_, _, _, _, _, h1, _⟩ <;> exact (Array.getElem?_eq_some_iff.1 h1).1
theorem ObOk.cells {G : Gh} {w : World} {b : Nat} {cs : List AV} (h : ObOk G w b cs) (hk : IsCells w b) : CellsOb G w b cs := by
  rcases h with h | ⟨_, _, es, c, _, h1, _⟩
  · exact h
  · obtain ⟨cur, T, q, h2⟩ := hk
    rw [h2] at h1; cases h1
theorem IsCells.below {w w' : World} {b : Nat} (hb : Below w.heap.size w w') (h : IsCells w b) : IsCells w' b := by
  obtain ⟨c, T, q, h⟩ := h
  exact ⟨c, T, q, (hb.block b (Array.getElem?_eq_some_iff.1 h).1).trans h⟩
theorem CellsOf.below {w w' : World} {x : Nat × TypeId × Nat} (hb : Below w.heap.size w w') (h : CellsOf w x) : CellsOf w' x := by
  obtain ⟨c, q, h, hs⟩ := h
  exact ⟨c, q, (hb.block x.1 (Array.getElem?_eq_some_iff.1 h).1).trans h, hs⟩
theorem IsMap.below {w w' : World} {b : Nat} (hb : Below w.heap.size w w') (h : IsMap w b) : IsMap w' b := by
  obtain ⟨es, c, h⟩ := h
  exact ⟨es, c, (hb.block b (Array.getElem?_eq_some_iff.1 h).1).trans h⟩
def blkSz (w : World) (b : Nat) : Nat := match w.heap[b]? with
  | some (.cells cur _ _) => cur.size
  | _ => 0
/-- Nothing of the variable stays for good; or it is dead: all of it stays. -/
def DeadOr (G : Gh) (w : World) (b : Nat) (cs : List AV) : Prop := G.m b = 0 ∨ (cs = [] ∧ G.m b = blkSz w b)
theorem DeadOr.keep {G G' : Gh} {w w' : World} {b : Nat} {cs : List AV} (h : DeadOr G w b cs) (hm : G'.m b = G.m b) (hh : w'.heap[b]? = w.heap[b]?) : DeadOr G' w' b cs := by
  rcases h with h | ⟨h1, h2⟩
  · exact .inl (hm.trans h)
  · exact .inr ⟨h1, by rw [hm, h2]; unfold blkSz; rw [hh]⟩
/-- From here on temporaries' numbers stand for the package's variables. -/
def gB : Nat := 1099511627776
def slot (tmps : Array Value) (t : Nat) : Option Value := match tmps[t]? with
  | some v => some v
  | none => if gB ≤ t then some (.pointer (some ⟨t - gB, 0, none⟩)) else none
theorem slot_of {tmps : Array Value} {t : Nat} {v : Value} (h : tmps[t]? = some v) : slot tmps t = some v := by unfold slot; rw [h]
theorem slot_tmp {tmps : Array Value} {t : Nat} {v : Value} (h : slot tmps t = some v) (ht : t < gB ∨ ∀ ad, v ≠ .pointer ad) : tmps[t]? = some v := by
  unfold slot at h
  split at h
  · rename_i u hu; rw [hu]; exact h
  · split at h
    · rcases ht with ht | ht
      · omega
      · cases h; exact absurd rfl (ht _)
    · cases h
theorem slot_glob {tmps : Array Value} {k : Nat} {v : Value} (h : slot tmps (gB + k) = some v) (hN : tmps.size ≤ gB + k) : v = .pointer (some ⟨k, 0, none⟩) := by
  unfold slot at h
  rw [Array.getElem?_eq_none hN] at h
  dsimp only at h
  rw [if_pos (by omega), Nat.add_sub_cancel_left] at h
  exact (Option.some.inj h).symm
theorem slot_set {tmps : Array Value} {d : Nat} {v : Value} (hd : d < tmps.size) : slot (tmps.setIfInBounds d v) d = some v := slot_of (by rw [Array.getElem?_setIfInBounds_self]; simp [hd])
theorem slot_ne {tmps : Array Value} {d t : Nat} {v : Value} (h : t ≠ d) : slot (tmps.setIfInBounds d v) t = slot tmps t := by
  unfold slot; rw [Array.getElem?_setIfInBounds_ne (fun e' => h e'.symm)]
structure Rel (C : Cx) (E : Env) (G : Gh) (s : AS) (a : Act) (w : World) : Prop where
  N : a.tmps.size = s.N
  tm : ∀ t x, s.tm t = some x → ∃ v, slot a.tmps t = some v ∧ V G w x v
  df : MarksOk E.w0.heap.size w a.defers
  mo : Mo E.G1 E.w1 G w
  lp : ∀ (l : Nat) (r : Loop × (Nat → Option AV)), s.lp l = some r → Stays E.w0.heap.size w l (.loop r.1)
  ls : ∀ (l : Nat) (r : Loop × (Nat → Option AV)) (t : Nat) (x : AV), s.lp l = some r → r.2 t = some x → ∃ v, slot r.1.tmps t = some v ∧ V G w x v
  mks : ∀ D ∈ E.mks, Stays E.w0.heap.size w D (.deferred (some []))
  dm : ∀ D ∈ E.mks, ({ target := .collected D, args := #[] } : Deferred) ∉ a.defers
  be : Below E.w0.heap.size E.w0 w
  m0 : ∀ b, b < E.w0.heap.size → G.m b = E.m0 b
  mz : ∀ b, w.heap.size ≤ b → G.m b = 0
  gi : C.GI E.m0 E.w0
  ol : G.blk.length = s.ob.length
  od : ∀ (i j b : Nat), G.blk[i]? = some b → G.blk[j]? = some b → i = j
  ob : ∀ (i : Nat) (cs : List AV) (b : Nat), s.ob[i]? = some cs → G.blk[i]? = some b → E.w0.heap.size ≤ b ∧ DeadOr G w b cs ∧ ObOk G w b cs
  t1 : G.tk 1 = some nilSl
  t0 : G.tk 0 = none ∨ G.tk 0 = some nilSl
  fr : ∀ t, s.next ≤ t → G.tk t = none
  ne : 3 ≤ s.next
  lv : ∀ t e, s.live t = some e → ∃ v, G.tk t = some v ∧ OwnK C E G w e v
  ld : ∀ (t u : Nat) (e e' : Tk) (v v' : Value) (g : Nat), s.live t = some e → s.live u = some e' → G.tk t = some v → G.tk u = some v' → v.ownBlock = some g → v'.ownBlock = some g → t = u

section
variable {C : Cx} {E : Env} {G : Gh} {s : AS} {a : Act} {w : World}

theorem Rel.lt (h : Rel C E G s a w) {i b : Nat} (hb : G.blk[i]? = some b) : b < w.heap.size := by
  obtain ⟨cs, hcs⟩ : ∃ cs, s.ob[i]? = some cs := by
    have hi := (List.getElem?_eq_some_iff.1 hb).1
    rw [h.ol] at hi
    exact ⟨_, List.getElem?_eq_getElem hi⟩
  exact (h.ob i cs b hcs hb).2.2.lt

theorem Rel.own_lt (h : Rel C E G s a w) {u : Nat} {k : Tk} {x : Value} (hu : s.live u = some k) (hx : G.tk u = some x) {g : Nat} (hg : x.ownBlock = some g) : g < w.heap.size := by
  obtain ⟨x', e1, e2⟩ := h.lv u k hu
  rw [hx] at e1
  cases e1
  exact (e2.facts hg).2.1
/-- A temporary gets a value. -/
theorem Rel.put (h : Rel C E G s a w) {d : Option Nat} (hd : ∀ t, d = some t → t < s.N) {x : AV} {v : Value} (hv : V G w x v) : Rel C E G (s.put d x) (a.put d v) w := by
  cases d with
  | none => exact h
  | some d =>
    have hlt := hd d rfl
    refine { h with N := by simp only [Act.put, Array.size_setIfInBounds]; exact h.N, tm := ?_, df := h.df }
    intro t y hy
    simp only [AS.put] at hy
    simp only [Act.put]
    by_cases e : t = d
    · subst e
      rw [if_pos rfl] at hy
      cases hy
      exact ⟨v, slot_set (by rw [h.N]; exact hlt), hv⟩
    · rw [if_neg e] at hy
      obtain ⟨u, hu, hV⟩ := h.tm t y hy
      exact ⟨u, by rw [slot_ne e]; exact hu, hV⟩
theorem Rel.del (h : Rel C E G s a w) {d : Option Nat} (u : Value) : Rel C E G (s.del d) (a.put d u) w := by
  cases d with
  | none => exact h
  | some d =>
    refine { h with N := by simp only [Act.put, Array.size_setIfInBounds]; exact h.N, tm := ?_, df := h.df }
    intro t y hy
    simp only [AS.del] at hy
    simp only [Act.put]
    by_cases e : t = d
    · rw [if_pos e] at hy; cases hy
    · rw [if_neg e] at hy
      obtain ⟨u, hu, hV⟩ := h.tm t y hy
      exact ⟨u, by rw [slot_ne e]; exact hu, hV⟩

/-- Old blocks stay; new ones may have come, some cells of them for good. -/
theorem Rel.mo_of (h : Rel C E G s a w) {w' : World} {m' : Nat → Nat} (hb : Below w.heap.size w w') (hm : ∀ b, b < w.heap.size → m' b = G.m b) : Mo G w { G with m := m' } w' := by
  refine ⟨fun b o v ho hc => ?_, fun _ _ e => e, fun _ _ e => e, fun _ h => h.below hb, fun _ h => h.below hb⟩
  have hlt : b < w.heap.size := by
    rcases Nat.lt_or_ge b w.heap.size with h1 | h1
    · exact h1
    · rw [h.mz b h1] at ho; omega
  exact ⟨by show o < m' b; rw [hm b hlt]; exact ho, by rw [World.cell?_of_block (hb.block b hlt)]; exact hc⟩
theorem Rel.grow (h : Rel C E G s a w) {w' : World} {m' : Nat → Nat} (hb : Below w.heap.size w w') (hm : ∀ b, b < w.heap.size → m' b = G.m b) (hz : ∀ b, w'.heap.size ≤ b → m' b = 0) :
    Rel C E { G with m := m' } s a w' := by
  have mo := h.mo_of hb hm
  have hs := h.be.size
  refine { h with tm := ?_, be := ?_, m0 := ?_, mz := hz, ob := ?_, lv := ?_, od := h.od, t1 := h.t1, fr := h.fr, ld := h.ld, df := h.df.below hb, mo := h.mo.trans mo, lp := (fun l o hl => (h.lp l o hl).below hb), ls := (fun l r t x h1 h2 => let ⟨v, e1, e2⟩ := h.ls l r t x h1 h2; ⟨v, e1, e2.mono mo⟩), mks := fun D hD => (h.mks D hD).below hb }
  · intro t x hx
    obtain ⟨v, h1, h2⟩ := h.tm t x hx
    exact ⟨v, h1, h2.mono mo⟩
  · exact h.be.trans (hb.mono hs)
  · intro b hlt
    exact (hm b (by omega)).trans (h.m0 b hlt)
  · intro i cs b hi hbk
    obtain ⟨h1, h2, h3⟩ := h.ob i cs b hi hbk
    have hlt := h.lt hbk
    exact ⟨h1, h2.keep (hm b hlt) (hb.block b hlt), h3.mono mo (hb.block b hlt)⟩
  · intro t e hl
    obtain ⟨v, h1, h2⟩ := h.lv t e hl
    exact ⟨v, h1, h2.keep mo (fun g _ hn hlt => ⟨hb.block g hlt, hm g hlt, hn⟩)⟩

/-- A block becomes an own variable. -/
theorem Mo.addBlk {G : Gh} {w : World} {g : Nat} : Mo G w { G with blk := G.blk ++ [g] } w := ⟨fun _ _ _ a b => ⟨a, b⟩, fun i b e => by
    show (G.blk ++ [g])[i]? = some b
    rw [List.getElem?_append_left (List.getElem?_eq_some_iff.1 e).1]; exact e, fun _ _ e => e, fun _ h => h, fun _ h => h⟩
theorem Rel.addObj' (h : Rel C E G s a w) {g : Nat} {cs : List AV} (hg : E.w0.heap.size ≤ g) (hm : G.m g = 0)
    (hn : ∀ i : Nat, G.blk[i]? ≠ some g) (hl : ∀ t e v, s.live t = some e → G.tk t = some v → v.ownBlock ≠ some g)
    (hc : ObOk { G with blk := G.blk ++ [g] } w g cs) :
    Rel C E { G with blk := G.blk ++ [g] } { s with ob := s.ob ++ [cs] } a w := by
  have mo : Mo G w { G with blk := G.blk ++ [g] } w := ⟨fun _ _ _ a b => ⟨a, b⟩, fun i b e => by
    show (G.blk ++ [g])[i]? = some b
    rw [List.getElem?_append_left (List.getElem?_eq_some_iff.1 e).1]; exact e, fun _ _ e => e, fun _ h => h, fun _ h => h⟩
  have hblk : ∀ i b, (G.blk ++ [g])[i]? = some b → (G.blk[i]? = some b) ∨ (i = G.blk.length ∧ b = g) := by
    intro i b e
    rcases Nat.lt_or_ge i G.blk.length with h1 | h1
    · rw [List.getElem?_append_left h1] at e; exact .inl e
    · rw [List.getElem?_append_right h1] at e
      have : i - G.blk.length = 0 := by
        have := (List.getElem?_eq_some_iff.1 e).1
        simp at this; omega
      rw [this] at e
      simp at e
      exact .inr ⟨by omega, e.symm⟩
  refine { h with tm := ?_, ol := ?_, od := ?_, ob := ?_, lv := ?_, m0 := h.m0, mz := h.mz, t1 := h.t1, fr := h.fr, ld := h.ld, mo := h.mo.trans mo, ls := (fun l r t x h1 h2 => let ⟨v, e1, e2⟩ := h.ls l r t x h1 h2; ⟨v, e1, e2.mono mo⟩) }
  · intro t x hx
    obtain ⟨v, h1, h2⟩ := h.tm t x hx
    exact ⟨v, h1, h2.mono mo⟩
  · simp [h.ol]
  · intro i j b hi hj
    rcases hblk i b hi with h1 | ⟨h1, h1'⟩ <;> rcases hblk j b hj with h2 | ⟨h2, h2'⟩
    · exact h.od i j b h1 h2
    · exact absurd (h2' ▸ h1) (hn i)
    · exact absurd (h1' ▸ h2) (hn j)
    · omega
  · intro i ds b hi hb
    rcases hblk i b hb with h1 | ⟨h1, h1'⟩
    · have hi' : s.ob[i]? = some ds := by
        have := (List.getElem?_eq_some_iff.1 h1).1
        rw [h.ol] at this
        rwa [List.getElem?_append_left this] at hi
      obtain ⟨a1, a2, a3⟩ := h.ob i ds b hi' h1
      exact ⟨a1, a2.keep rfl rfl, a3.mono mo rfl⟩
    · subst h1'
      rw [h1, h.ol, List.getElem?_append_right (Nat.le_refl _), Nat.sub_self] at hi
      simp at hi
      subst hi
      exact ⟨hg, .inl hm, hc⟩
  · intro t e he
    obtain ⟨v, b1, b2⟩ := h.lv t e he
    refine ⟨v, b1, b2.keep mo (fun g' hg' b11 _ => ⟨rfl, rfl, fun i e' => ?_⟩)⟩
    rcases hblk i g' e' with h1 | ⟨_, h1⟩
    · exact b11 i h1
    · exact hl t e v he b1 (by rw [hg', h1])

theorem Rel.addObj (h : Rel C E G s a w) {g : Nat} {cs : List AV} (hg : E.w0.heap.size ≤ g) (hm : G.m g = 0)
    (hn : ∀ i : Nat, G.blk[i]? ≠ some g) (hl : ∀ t e v, s.live t = some e → G.tk t = some v → v.ownBlock ≠ some g)
    (hc : ObOk G w g cs) :
    Rel C E { G with blk := G.blk ++ [g] } { s with ob := s.ob ++ [cs] } a w := h.addObj' hg hm hn hl (hc.mono Mo.addBlk rfl)
/-- A row of the call's own gets a token. -/
theorem Rel.addTok (h : Rel C E G s a w) {e : Tk} {v : Value} (ho : OwnK C E G w e v) (hl : ∀ t e u g, s.live t = some e → G.tk t = some u → v.ownBlock = some g → u.ownBlock ≠ some g) :
    Rel C E { G with tk := fun t => if t = s.next then some v else G.tk t } { s with live := fun t => if t = s.next then some e else s.live t, next := s.next + 1 } a w := by
  have hnone := h.fr s.next (Nat.le_refl _)
  have mo : Mo G w { G with tk := fun t => if t = s.next then some v else G.tk t } w := ⟨fun _ _ _ a b => ⟨a, b⟩, fun _ _ e => e, fun t u e => by
    show (if t = s.next then some v else G.tk t) = some u
    rw [if_neg (fun e' => by rw [e', hnone] at e; cases e)]; exact e, fun _ h => h, fun _ h => h⟩
  refine { h with t0 := (by show (if 0 = s.next then some v else G.tk 0) = none ∨ (if 0 = s.next then some v else G.tk 0) = some nilSl; rw [if_neg (by have := h.ne; omega)]; exact h.t0), tm := ?_, ob := ?_, lv := ?_, m0 := h.m0, mz := h.mz, t1 := ?_, fr := ?_, ne := by have := h.ne; show 3 ≤ s.next + 1; omega, ld := ?_, od := h.od, ol := h.ol, mo := h.mo.trans mo, ls := (fun l r t x h1 h2 => let ⟨v, e1, e2⟩ := h.ls l r t x h1 h2; ⟨v, e1, e2.mono mo⟩) }
  · intro t x hx
    obtain ⟨v, h1, h2⟩ := h.tm t x hx
    exact ⟨v, h1, h2.mono mo⟩
  · intro i ds b hi hb
    obtain ⟨a1, a2, a3⟩ := h.ob i ds b hi hb
    exact ⟨a1, a2.keep rfl rfl, a3.mono mo rfl⟩
  · exact mo.tk 1 _ h.t1
  · intro t ht
    show (if t = s.next then some v else G.tk t) = none
    have ht' : s.next + 1 ≤ t := ht
    rw [if_neg (by omega)]; exact h.fr t (by omega)
  · intro t e' he
    have he : (if t = s.next then some e else s.live t) = some e' := he
    by_cases ht : t = s.next
    · rw [if_pos ht] at he
      cases he
      exact ⟨v, by show (if t = s.next then some v else G.tk t) = some v; rw [if_pos ht], ho.keep mo (fun g _ hn _ => ⟨rfl, rfl, hn⟩)⟩
    · rw [if_neg ht] at he
      obtain ⟨u, b1, b2⟩ := h.lv t e' he
      exact ⟨u, mo.tk t u b1, b2.keep mo (fun g _ hn _ => ⟨rfl, rfl, hn⟩)⟩
  · intro t u e1 e2 v1 v2 g' h1 h2 h3 h4 h5 h6
    have h1 : (if t = s.next then some e else s.live t) = some e1 := h1
    have h2 : (if u = s.next then some e else s.live u) = some e2 := h2
    have h3 : (if t = s.next then some v else G.tk t) = some v1 := h3
    have h4 : (if u = s.next then some v else G.tk u) = some v2 := h4
    by_cases ht : t = s.next <;> by_cases hu : u = s.next
    · omega
    · rw [if_pos ht] at h3; rw [if_neg hu] at h2 h4
      cases h3
      exact absurd h6 (hl u e2 v2 g' h2 h4 h5)
    · rw [if_pos hu] at h4; rw [if_neg ht] at h1 h3
      cases h4
      exact absurd h5 (hl t e1 v1 g' h1 h3 h6)
    · rw [if_neg ht] at h1 h3; rw [if_neg hu] at h2 h4
      exact h.ld t u e1 e2 v1 v2 g' h1 h2 h3 h4 h5 h6
/-- A token's row is appended to no more. -/
theorem Rel.dropTok (h : Rel C E G s a w) (t0 : Nat) : Rel C E G { s with live := fun t => if t = t0 then none else s.live t } a w := by
  have hl : ∀ t e, (if t = t0 then none else s.live t) = some e → s.live t = some e := by
    intro t e he
    by_cases ht : t = t0
    · rw [if_pos ht] at he; cases he
    · rwa [if_neg ht] at he
  exact { h with lv := fun t e he => h.lv t e (hl t e he), ld := fun t u e e' v v' g h1 h2 => h.ld t u e e' v v' g (hl t e h1) (hl u e' h2) }
/-- A block of the machine's own becomes another such. -/
theorem Stays.putObj {B l k : Nat} {w : World} {o o' : Obj} (h : Stays B w k o) (hk : k ≠ l) : Stays B (w.putObj l o') k o := ⟨h.1, (World.putObj_heap_other hk).trans h.2.1, h.2.2⟩
theorem Rel.putObj (h : Rel C E G s a w) {l : Nat} {o o' : Obj} (hl : Stays E.w0.heap.size w l o) (hnm : ∀ (es : Array MapEntry) (c : Nat), o ≠ .map es c) (ho' : NoCells o') (hd : ∀ d ∈ a.defers, d ≠ { target := .collected l, args := #[] }) (hm : l ∉ E.mks) (lp' : Nat → Option (Loop × (Nat → Option AV)))
    (hlp : ∀ (k : Nat) (r : Loop × (Nat → Option AV)), lp' k = some r → (k = l ∧ o' = .loop r.1 ∧ ∃ r0, s.lp l = some (r0, r.2) ∧ r0.tmps = r.1.tmps) ∨ (k ≠ l ∧ s.lp k = some r)) :
    Rel C E G { s with lp := lp' } a (w.putObj l o') ∧ Mo G w G (w.putObj l o') := by
  have hlt : l < w.heap.size := (Array.getElem?_eq_some_iff.1 hl.2.1).1
  have hcell : ∀ (k : Nat) (cur : Array Value) (T : TypeId) (q : Nat × Nat), w.heap[k]? = some (.cells cur T q) → (w.putObj l o').heap[k]? = some (.cells cur T q) := by
    intro k cur T q hk
    have hne : k ≠ l := by
      rintro rfl
      exact hl.2.2 cur T q (Option.some.inj (hl.2.1.symm.trans hk))
    exact (World.putObj_heap_other hne).trans hk
  have hmap : ∀ (k : Nat) (es : Array MapEntry) (c : Nat), w.heap[k]? = some (.map es c) → (w.putObj l o').heap[k]? = some (.map es c) := by
    intro k es c hk
    have hne : k ≠ l := by
      rintro rfl
      exact hnm es c (Option.some.inj (hl.2.1.symm.trans hk))
    exact (World.putObj_heap_other hne).trans hk
  have mo : Mo G w G (w.putObj l o') := ⟨fun b q v h1 h2 => ⟨h1, by
    have hne : b ≠ l := by
      rintro rfl
      unfold World.cell? at h2
      rw [hl.2.1] at h2
      have := hl.2.2
      cases o with
      | cells cur T q => exact absurd rfl (this cur T q)
      | _ => simp at h2
    rw [World.cell?_of_block (World.putObj_heap_other hne)]; exact h2⟩, fun _ _ e => e, fun _ _ e => e, fun x ⟨cur, q, e, hs⟩ => ⟨cur, q, hcell x.1 cur x.2.1 q e, hs⟩, fun b ⟨es, c, e⟩ => ⟨es, c, hmap b es c e⟩⟩
  refine ⟨{ h with tm := ?_, be := ?_, mz := ?_, ob := ?_, lv := ?_, od := h.od, t1 := h.t1, fr := h.fr, ld := h.ld, df := ?_, mo := h.mo.trans mo, lp := ?_, ls := ?_, mks := fun D hD => (h.mks D hD).putObj (fun e => hm (e ▸ hD)) }, mo⟩
  · intro t x hx
    obtain ⟨v, h1, h2⟩ := h.tm t x hx
    exact ⟨v, h1, h2.mono mo⟩
  · refine ⟨fun d hd' => ?_, h.df.2⟩
    obtain ⟨D, rfl, k⟩ := h.df.1 d hd'
    exact ⟨D, rfl, k.putObj (fun e => hd _ hd' (by rw [e]))⟩
  · intro k r hk
    rcases hlp k r hk with ⟨rfl, e, _⟩ | ⟨e, e2⟩
    · exact ⟨hl.1, by rw [World.putObj_heap_same hlt, e], by rw [← e]; exact ho'⟩
    · exact (h.lp k r e2).putObj e
  · intro k r t x hk hx
    rcases hlp k r hk with ⟨rfl, _, r0, e, e'⟩ | ⟨e, e2⟩
    · obtain ⟨v, e1, e2⟩ := h.ls k (r0, r.2) t x e hx
      exact ⟨v, by rw [← e']; exact e1, e2.mono mo⟩
    · obtain ⟨v, e1, e2⟩ := h.ls k r t x e2 hx
      exact ⟨v, e1, e2.mono mo⟩
  · exact ⟨h.be.os, h.be.tape, h.be.output, by simpa using h.be.size, fun k hk => (World.putObj_heap_other (by have := hl.1; omega)).trans (h.be.block k hk)⟩
  · intro b hb
    exact h.mz b (by simpa using hb)
  · intro i ds b hi hb
    obtain ⟨a1, a2, a3⟩ := h.ob i ds b hi hb
    have hne : b ≠ l := by
      rintro rfl
      rcases a3 with ⟨cur, T, e, _⟩ | ⟨_, _, es, c, _, e, _⟩
      · exact hl.2.2 cur T _ (Option.some.inj (hl.2.1.symm.trans e))
      · exact hnm es c (Option.some.inj (hl.2.1.symm.trans e))
    exact ⟨a1, a2.keep rfl (World.putObj_heap_other hne), a3.mono mo (World.putObj_heap_other hne)⟩
  · intro t e he
    obtain ⟨v, b1, b2⟩ := h.lv t e he
    refine ⟨v, b1, b2.keep mo (fun g hg hn _ => ?_)⟩
    obtain ⟨cur, T, q, e'⟩ := (b2.facts hg).2.2.1
    exact ⟨(hcell g cur T q e').trans e'.symm, rfl, hn⟩
end
end Go.Proofs.AL
namespace Go.Proofs.AL
open Go Go.RowKit

/-! ## Operations that only compute -/
def cv1 : Value → Option AV
  | .int k n => some (.int k n)
  | .bool b => some (.bool b)
  | .string s => some (.str s)
  | .slice none 0 0 => some (.sl 1 [])
  | .pointer none => some .nilp
  | .nilFunc => some .nilf
  | .nilIface => some .nili
  | .map none => some .nilm
  | _ => none
def cvL : List Value → Option (List AV)
  | [] => some []
  | v :: l => match cv1 v, cvL l with
    | some x, some xs => some (x :: xs)
    | _, _ => none
def cv : Value → Option AV
  | .agg cs => (cvL cs.toList).map .agg
  | v => cv1 v
def szOf (P : Program) (t : TypeId) : Option Nat := (P.info? t).map (·.size)
def aggT (P : Program) (t : TypeId) : Option Bool := match P.underlying t with
  | some (.struct _) => some true
  | some (.array _ _) => some true
  | some _ => some false
  | none => none
def elT (P : Program) (t : TypeId) : Option TypeId := match P.underlying t with
  | some (.slice e) => some e
  | _ => none
def fldT (P : Program) (t : TypeId) (i : Nat) : Option (Nat × TypeId) := match P.underlying t with
  | some (.struct fs) => (fs[i]?).map fun f => (f.offset, f.type)
  | _ => none
def intT (P : Program) (t : TypeId) : Option IntKind := match P.underlying t with
  | some (.int k) => some k
  | _ => none
def strT (P : Program) (t : TypeId) : Bool := match P.underlying t with
  | some .string => true
  | _ => false
def boolT (P : Program) (t : TypeId) : Bool := match P.underlying t with
  | some .bool => true
  | _ => false
def zeroT (P : Program) (t : TypeId) : Option AV := ((P.info? t).bind (·.zero)).bind cv

def AV.one : AV → Bool
  | .agg _ => false
  | .tup _ => false
  | _ => true
/-- Tokens stay behind: in what is handed on, and in rows' elements. -/
def er1 : AV → AV
  | .sl _ xs => .sl 0 xs
  | x => x
def er : AV → AV
  | .agg cs => .agg (cs.map er1)
  | .sl _ xs => .sl 0 xs
  | x => x

def VL (G : Gh) (w : World) (cs : List AV) (vs : List Value) : Prop := cs.length = vs.length ∧ ∀ (i : Nat) (x : AV) (v : Value), cs[i]? = some x → vs[i]? = some v → V G w x v ∧ v.oneCell' = true

section
variable {C : Cx} {E : Env} {G : Gh} {s : AS} {a : Act} {w : World}
theorem V.one {x : AV} {v : Value} (h : V G w x v) (h1 : x.one = true) : v.oneCell' = true := by cases h <;> first | rfl | assumption | cases h1
theorem VL.nil : VL G w [] [] := ⟨rfl, fun i x v h => by simp at h⟩
theorem VL.cons {x : AV} {v : Value} {cs : List AV} {vs : List Value} (h : V G w x v) (h1 : v.oneCell' = true) (h2 : VL G w cs vs) : VL G w (x :: cs) (v :: vs) := by
  refine ⟨by simp [h2.1], fun i y u hy hu => ?_⟩
  cases i with
  | zero => simp at hy hu; subst hy; subst hu; exact ⟨h, h1⟩
  | succ i => simp at hy hu; exact h2.2 i y u hy hu
theorem VL.append {cs ds : List AV} {vs us : List Value} (h : VL G w cs vs) (k : VL G w ds us) : VL G w (cs ++ ds) (vs ++ us) := by
  refine ⟨by simp [h.1, k.1], fun i y u hy hu => ?_⟩
  rcases Nat.lt_or_ge i cs.length with h1 | h1
  · rw [List.getElem?_append_left h1] at hy
    rw [List.getElem?_append_left (h.1 ▸ h1)] at hu
    exact h.2 i y u hy hu
  · rw [List.getElem?_append_right h1] at hy
    rw [List.getElem?_append_right (h.1 ▸ h1), ← h.1] at hu
    exact k.2 _ y u hy hu
theorem VL.take {cs : List AV} {vs : List Value} (h : VL G w cs vs) (n : Nat) : VL G w (cs.take n) (vs.take n) := by
  refine ⟨by simp [h.1], fun i y u hy hu => ?_⟩
  rw [List.getElem?_take] at hy hu
  by_cases e : i < n
  · rw [if_pos e] at hy hu; exact h.2 i y u hy hu
  · rw [if_neg e] at hy; cases hy
theorem VL.drop {cs : List AV} {vs : List Value} (h : VL G w cs vs) (n : Nat) : VL G w (cs.drop n) (vs.drop n) := by
  refine ⟨by simp [h.1], fun i y u hy hu => ?_⟩
  rw [List.getElem?_drop] at hy hu
  exact h.2 _ y u hy hu
theorem VL.mono {G' : Gh} {w' : World} (hm : Mo G w G' w') {cs : List AV} {vs : List Value} (h : VL G w cs vs) : VL G' w' cs vs := ⟨h.1, fun i x v a b => ⟨(h.2 i x v a b).1.mono hm, (h.2 i x v a b).2⟩⟩
theorem VL.agg {cs : List AV} {vs : Array Value} (h : VL G w cs vs.toList) : V G w (.agg cs) (.agg vs) :=
  .agg (by simpa using h.1) (fun i c hc v hv => (h.2 i c v hc (by simpa using hv)).1) (fun i v hv => by
    have hi := (Array.getElem?_eq_some_iff.1 hv).1
    have hl : i < cs.length := by have := h.1; simp at this; omega
    exact (h.2 i _ v (List.getElem?_eq_getElem hl) (by simpa using hv)).2)
theorem V.agg_inv {cs : List AV} {v : Value} (h : V G w (.agg cs) v) : ∃ vs : Array Value, v = .agg vs ∧ VL G w cs vs.toList := by
  cases h with
  | agg h1 h2 h3 => exact ⟨_, rfl, by simpa using h1, fun i x v a b => ⟨h2 i x a v (by simpa using b), h3 i v (by simpa using b)⟩⟩
theorem V.er1 {x : AV} {v : Value} (h : V G w x v) : V G w (AL.er1 x) v := by
  cases h with
  | sl0 h => exact .sl0 (.inl rfl)
  | sl f a b c d e g h i j => exact .sl f a b c d e g (.inl rfl) i j
  | int k n => exact .int k n
  | bool b => exact .bool b
  | str s => exact .str s
  | agg a b c => exact .agg a b c
  | tup a b => exact .tup a b
  | cptr f a b => exact .cptr f a b
  | ptr a b => exact .ptr a b
  | nilp => exact .nilp
  | fn a b c d => exact .fn a b c d
  | nilf => exact .nilf
  | own h0 a => exact .own h0 a
  | eptr a => exact .eptr a
  | mp a b => exact .mp a b
  | nilm => exact .nilm
  | ifc a => exact .ifc a
  | nili => exact .nili
  | opq a => exact .opq a
  | tp0 a b => exact .tp0 a b
  | tp1 a b => exact .tp1 a b
theorem VL.er {cs : List AV} {vs : List Value} (h : VL G w cs vs) : VL G w (cs.map AL.er1) vs := ⟨by simpa using h.1, fun i x v a b => by
  rw [List.getElem?_map] at a
  obtain ⟨y, hy, rfl⟩ := Option.map_eq_some_iff.1 a
  exact ⟨(h.2 i y v hy b).1.er1, (h.2 i y v hy b).2⟩⟩
theorem V.er {x : AV} {v : Value} (h : V G w x v) : V G w (AL.er x) v := by
  cases x with
  | agg cs => obtain ⟨vs, rfl, hl⟩ := h.agg_inv; exact hl.er.agg
  | sl t xs => exact h.er1
  | _ => exact h
/-- A value's cells. -/
theorem V.cells {x : AV} {v : Value} (h : V G w x v) (hx : ∀ vs, x ≠ .tup vs) : VL G w x.cells v.cells.toList := by
  cases h with
  | agg a b c => exact ⟨by simpa [AV.cells, Value.cells] using a, fun i x v e f => ⟨b i x e v (by simpa [Value.cells] using f), c i v (by simpa [Value.cells] using f)⟩⟩
  | tup a b => exact absurd rfl (hx _)
  | int k n => exact .cons (.int k n) rfl .nil
  | bool b => exact .cons (.bool b) rfl .nil
  | str s => exact .cons (.str s) rfl .nil
  | sl0 h => exact .cons (.sl0 h) rfl .nil
  | sl f a b c d e g h i j => exact .cons (.sl f a b c d e g h i j) rfl .nil
  | cptr f a b => exact .cons (.cptr f a b) rfl .nil
  | ptr a b => exact .cons (.ptr a b) rfl .nil
  | own h0 a => exact .cons (.own h0 a) rfl .nil
  | eptr a => exact .cons (.eptr a) rfl .nil
  | mp a b => exact .cons (.mp a b) rfl .nil
  | nilm => exact .cons .nilm rfl .nil
  | ifc a => exact .cons (.ifc a) rfl .nil
  | nili => exact .cons .nili rfl .nil
  | @opq v a => cases v <;> first | exact .cons (.opq a) a .nil | cases a
  | nilp => exact .cons .nilp rfl .nil
  | tp0 a b => exact .cons (.tp0 a b) rfl .nil
  | tp1 a b => exact .cons (.tp1 a b) rfl .nil
  | fn a b c d => exact .cons (.fn a b c d) rfl .nil
  | nilf => exact .cons .nilf rfl .nil

theorem cv1_ok (ht : G.tk 1 = some nilSl) {v : Value} {x : AV} (h : cv1 v = some x) : V G w x v ∧ v.oneCell' = true := by
  unfold cv1 at h
  split at h <;> cases h
  · exact ⟨.int _ _, rfl⟩
  · exact ⟨.bool _, rfl⟩
  · exact ⟨.str _, rfl⟩
  · exact ⟨.sl0 (.inr (.inr ⟨by decide, ht⟩)), rfl⟩
  · exact ⟨.nilp, rfl⟩
  · exact ⟨.nilf, rfl⟩
  · exact ⟨.nili, rfl⟩
  · exact ⟨.nilm, rfl⟩
theorem cvL_ok (ht : G.tk 1 = some nilSl) : ∀ {l : List Value} {xs : List AV}, cvL l = some xs → VL G w xs l
  | [], xs, h => by cases h; exact .nil
  | v :: l, xs, h => by
    unfold cvL at h
    cases h1 : cv1 v with
    | none => rw [h1] at h; cases h
    | some x =>
      cases h2 : cvL l with
      | none => rw [h1, h2] at h; cases h
      | some ys =>
        rw [h1, h2] at h
        cases h
        have h3 := cv1_ok (w := w) ht h1; exact .cons h3.1 h3.2 (cvL_ok ht h2)
theorem cv_ok (ht : G.tk 1 = some nilSl) {v : Value} {x : AV} (h : cv v = some x) : V G w x v := by
  unfold cv at h
  split at h
  · obtain ⟨cs, hc, rfl⟩ := Option.map_eq_some_iff.1 h
    exact (cvL_ok ht hc).agg
  · exact (cv1_ok ht h).1

def evalO (s : AS) : Operand → Option AV
  | .tmp t => if t < gB then s.tm t else none
  | .const v => cv v
  | .func f => some (.fn (.func f) [] [])
  | .global k => if s.N ≤ gB + k then s.tm (gB + k) else none
theorem Rel.eval (h : Rel C E G s a w) {x : Operand} {y : AV} (hx : evalO s x = some y) : V G w y (a.eval x) := by
  cases x with
  | tmp t =>
    simp only [evalO] at hx
    split at hx
    case isFalse => cases hx
    rename_i hlt
    obtain ⟨v, h1, h2⟩ := h.tm t y hx
    have h1 := slot_tmp h1 (.inl hlt)
    have : a.eval (.tmp t) = v := by simp [Act.eval, Array.getD_eq_getD_getElem?, h1]
    rw [this]; exact h2
  | const v => exact cv_ok h.t1 hx
  | func f => cases hx; exact .fn rfl rfl (fun i c hc => by simp at hc) (fun i c hc => by simp at hc)
  | global g =>
    simp only [evalO] at hx
    split at hx
    case isFalse => cases hx
    rename_i hN
    obtain ⟨v, h1, h2⟩ := h.tm _ y hx
    have := slot_glob h1 (by rw [h.N]; exact hN)
    subst this
    exact h2
end
end Go.Proofs.AL
namespace Go.Proofs.AL
open Go Go.RowKit

section
variable {P : Program} {w : World}
theorem run_szOf {t : TypeId} {n : Nat} (h : szOf P t = some n) : (sizeOf t).run P w = .ok n w := by
  unfold szOf at h
  obtain ⟨i, hi, rfl⟩ := Option.map_eq_some_iff.1 h
  unfold sizeOf typeInfo program
  simp [Sem.run_bind, Sem.run, hi, Result.andThen]
theorem run_underlyingT {t : TypeId} {d : TypeDesc} (h : P.underlying t = some d) : (underlying t).run P w = .ok d w := by
  unfold underlying program
  simp [Sem.run_bind, Sem.run, h, Result.andThen]
theorem run_aggT {t : TypeId} {b : Bool} (h : aggT P t = some b) : (isAgg t).run P w = .ok b w := by
  unfold aggT at h
  cases hu : P.underlying t with
  | none => rw [hu] at h; cases h
  | some d =>
    rw [hu] at h
    unfold isAgg
    simp only [Sem.run_bind, run_underlyingT hu, Result.andThen]
    cases d <;> simp_all <;> rfl
theorem run_zeroT {t : TypeId} {z : Value} (h : (P.info? t).bind (·.zero) = some z) : (zeroValue t).run P w = .ok z w := by
  obtain ⟨i, hi, hz⟩ := Option.bind_eq_some_iff.1 h
  unfold zeroValue typeInfo program
  simp [Sem.run_bind, Sem.run, hi, hz, Result.andThen]
theorem elT_ok {t e : TypeId} (h : elT P t = some e) : P.underlying t = some (.slice e) := by
  unfold elT at h; split at h <;> cases h; assumption
theorem intT_ok {t : TypeId} {k : IntKind} (h : intT P t = some k) : P.underlying t = some (.int k) := by
  unfold intT at h; split at h <;> cases h; assumption
theorem strT_ok {t : TypeId} (h : strT P t = true) : P.underlying t = some .string := by
  unfold strT at h; split at h <;> first | assumption | cases h
theorem boolT_ok {t : TypeId} (h : boolT P t = true) : P.underlying t = some .bool := by
  unfold boolT at h; split at h <;> first | assumption | cases h
end

/-! ### structs of plain fields: are two the same? -/
inductive Bt where
  | int | str | bool
def bt (P : Program) (t : TypeId) : Option Bt := match P.underlying t with
  | some (.int _) => some .int
  | some .string => some .str
  | some .bool => some .bool
  | _ => none
def btL (P : Program) : Nat → List Field → Option (List Bt)
  | _, [] => some []
  | k, f :: fs => if f.offset = k ∧ f.name ≠ "_" then (bt P f.type).bind fun b => (btL P (k + 1) fs).map (b :: ·) else none
def flatT (P : Program) (t : TypeId) : Option (List Bt) := match P.underlying t with
  | some (.struct fs) => if P.stoodInHeld t = false ∧ P.eqGuardType P.depth t = false then btL P 0 fs.toList else none
  | _ => none
def eqL : List Bt → List AV → List AV → Option Bool
  | [], [], [] => some true
  | .int :: l, .int k a :: xs, .int k' b :: ys => if k = k' then (eqL l xs ys).map (fun r => a == b && r) else none
  | .str :: l, .str a :: xs, .str b :: ys => (eqL l xs ys).map (fun r => a.toList == b.toList && r)
  | .bool :: l, .bool a :: xs, .bool b :: ys => (eqL l xs ys).map (fun r => a == b && r)
  | _, _, _ => none
section
variable {P : Program} {G : Gh} {w : World}
theorem bt_part {t : TypeId} {b : Bt} (h : bt P t = some b) {X : Array Value} {k : Nat} {v : Value} (hv : X[k]? = some v) : (part t X k).run P w = .ok v w := by
  have ha : aggT P t = some false := by
    unfold bt at h
    unfold aggT
    split at h <;> first | (cases h; done) | (rename_i e; rw [e])
  unfold part
  simp only [Sem.run_bind, run_aggT ha, Result.andThen, Bool.false_eq_true, if_false, hv]
  rfl
theorem bt_int {t : TypeId} (h : bt P t = some .int) : ∃ k, P.underlying t = some (.int k) := by
  unfold bt at h
  split at h <;> first | exact ⟨_, by assumption⟩ | cases h
theorem bt_str {t : TypeId} (h : bt P t = some .str) : P.underlying t = some .string := by
  unfold bt at h
  split at h <;> first | assumption | cases h
theorem bt_bool {t : TypeId} (h : bt P t = some .bool) : P.underlying t = some .bool := by
  unfold bt at h
  split at h <;> first | assumption | cases h
theorem eqFields_ok (d : Nat) (X Y : Array Value) : ∀ (fs : List Field) (k : Nat) (l : List Bt) (xs ys : List AV) (r : Bool), btL P k fs = some l →
    (∀ (i : Nat) (x : AV), xs[i]? = some x → ∃ v, X[k + i]? = some v ∧ V G w x v) → (∀ (i : Nat) (x : AV), ys[i]? = some x → ∃ v, Y[k + i]? = some v ∧ V G w x v) → eqL l xs ys = some r → (Op.eqFields (d + 1) X Y fs).run P w = .ok r w
  | [], k, l, xs, ys, r, hb, hx, hy, h => by
    cases hb
    cases xs <;> cases ys <;> first | (cases h; rfl) | cases h
  | f :: fs, k, l, xs, ys, r, hb, hx, hy, h => by
    unfold btL at hb
    split at hb
    case isFalse => cases hb
    rename_i hc
    obtain ⟨ho, hn⟩ := hc
    obtain ⟨b, hb1, hb⟩ := Option.bind_eq_some_iff.1 hb
    obtain ⟨l', hl, rfl⟩ := Option.map_eq_some_iff.1 hb
    have key : ∀ (x y : AV) (xs' ys' : List AV) (q r' : Bool), xs = x :: xs' → ys = y :: ys' → (∀ u v, V G w x u → V G w y v → (Op.equalIn (d + 1) f.type u v).run P w = .ok q w) → eqL l' xs' ys' = some r' → (Op.eqFields (d + 1) X Y (f :: fs)).run P w = .ok (q && r') w := by
      rintro x y xs' ys' q r' rfl rfl hq hr
      obtain ⟨u, u1, u2⟩ := hx 0 x rfl
      obtain ⟨v, v1, v2⟩ := hy 0 y rfl
      have ih := eqFields_ok d X Y fs (k + 1) l' xs' ys' r' hl (fun i z hz => by
        have := hx (i + 1) z (by simpa using hz)
        rwa [show k + (i + 1) = k + 1 + i by omega] at this) (fun i z hz => by
        have := hy (i + 1) z (by simpa using hz)
        rwa [show k + (i + 1) = k + 1 + i by omega] at this) hr
      simp only [Nat.add_zero] at u1 v1
      unfold Op.eqFields
      rw [if_pos hn, ho]
      simp only [Sem.run_bind, bt_part hb1 u1, bt_part hb1 v1, Result.andThen, hq u v u2 v2]
      cases q
      · rfl
      · simp only [Bool.not_true, Bool.false_eq_true, if_false, Bool.true_and]; exact ih
    cases b with
    | int =>
      obtain ⟨kk, hk⟩ := bt_int hb1
      match xs, ys, h with
      | .int k1 a :: xs', .int k2 c :: ys', h =>
        unfold eqL at h
        split at h
        case isFalse => cases h
        rename_i e; subst e
        obtain ⟨r', hr, rfl⟩ := Option.map_eq_some_iff.1 h
        exact key _ _ xs' ys' _ r' rfl rfl (fun u v hu hv => by cases hu; cases hv; exact run_equalIn_int w d f.type k1 kk a c hk) hr
    | str =>
      match xs, ys, h with
      | .str a :: xs', .str c :: ys', h =>
        obtain ⟨r', hr, rfl⟩ := Option.map_eq_some_iff.1 h
        exact key _ _ xs' ys' _ r' rfl rfl (fun u v hu hv => by cases hu; cases hv; exact run_equalIn_string w d f.type a c (bt_str hb1)) hr
    | bool =>
      match xs, ys, h with
      | .bool a :: xs', .bool c :: ys', h =>
        obtain ⟨r', hr, rfl⟩ := Option.map_eq_some_iff.1 h
        exact key _ _ xs' ys' _ r' rfl rfl (fun u v hu hv => by cases hu; cases hv; exact run_equalIn_bool' w d f.type a c (bt_bool hb1)) hr
theorem eqStruct_ok {t : TypeId} {l : List Bt} (hf : flatT P t = some l) {xs ys : List AV} {u v : Value} (hx : V G w (.agg xs) u) (hy : V G w (.agg ys) v) {r : Bool} (h : eqL l xs ys = some r) (o1 o2 : Operand) (op : BinOp) :
    (eqGuard op t o1 o2 u v).run P w = .ok () w ∧ (Op.equal t u v).run P w = .ok r w := by
  obtain ⟨X, rfl, hX⟩ := hx.agg_inv
  obtain ⟨Y, rfl, hY⟩ := hy.agg_inv
  unfold flatT at hf
  split at hf
  case h_2 => cases hf
  rename_i fs hu
  split at hf
  case isFalse => cases hf
  rename_i hc
  have hfo : P.fieldsOf t = fs := by unfold Program.fieldsOf; rw [hu]
  refine ⟨run_eqGuard_agg w op t o1 o2 X Y hc.2, ?_⟩
  show (Op.equalIn (9999 + 1) t (.agg X) (.agg Y)).run P w = _
  rw [run_equalIn_struct w 9999 t X Y (by rw [hfo]; exact hu) hc.1, hfo]
  refine eqFields_ok (G := G) 9998 X Y fs.toList 0 l xs ys r hf (fun i x hi => ?_) (fun i x hi => ?_) h
  · have hil : i < X.size := by have := (List.getElem?_eq_some_iff.1 hi).1; have := hX.1; simp at this; omega
    exact ⟨X[i], by rw [Nat.zero_add]; exact Array.getElem?_eq_getElem hil, (hX.2 i x _ hi (by simp [hil])).1⟩
  · have hil : i < Y.size := by have := (List.getElem?_eq_some_iff.1 hi).1; have := hY.1; simp at this; omega
    exact ⟨Y[i], by rw [Nat.zero_add]; exact Array.getElem?_eq_getElem hil, (hY.2 i x _ hi (by simp [hil])).1⟩
end
/-! ### is it nil? -/
inductive Kd where
  | ptr | map | fn | sl | ifc
def kdT (P : Program) (t : TypeId) : Option Kd := match P.underlying t with
  | some (.pointer _) => some .ptr
  | some (.map _ _) => some .map
  | some (.func _ _ _) => some .fn
  | some (.slice _) => some .sl
  | some (.interface _) => some .ifc
  | _ => none
/-- One of the two is nil. -/
def nilQ : Kd → AV → AV → Option Bool
  | .ptr, .nilp, .nilp => some true
  | .ptr, .nilp, .ptr _ _ => some false
  | .ptr, .nilp, .cptr _ => some false
  | .ptr, .ptr _ _, .nilp => some false
  | .ptr, .cptr _, .nilp => some false
  | .map, .nilm, .nilm => some true
  | .map, .nilm, .mp _ => some false
  | .map, .mp _, .nilm => some false
  | .fn, .nilf, .nilf => some true
  | .fn, .nilf, .fn _ _ _ => some false
  | .fn, .fn _ _ _, .nilf => some false
  | .sl, .sl 1 [], .sl 1 [] => some true
  | .sl, .sl _ (_ :: _), .sl 1 [] => some false
  | .sl, .sl 1 [], .sl _ (_ :: _) => some false
  | .ifc, .nili, .ifc _ _ => some false
  | .ifc, .ifc _ _, .nili => some false
  | _, _, _ => none
def plainV : Value → Bool
  | .pointer _ => true
  | .map _ => true
  | .func _ _ _ => true
  | .nilFunc => true
  | .slice _ _ _ => true
  | .nilIface => true
  | .iface _ _ => true
  | _ => false
theorem run_eql_plain {P : Program} {w : World} {t : TypeId} {u v : Value} (h : plainV u = true) : (binOp .eql t u v).run P w = ((Op.equal t u v).run P w).andThen fun b w' => .ok (.bool b) w' := by
  cases u <;> first | (cases h; done) | (cases v <;> simp [binOp])
theorem run_neq_plain {P : Program} {w : World} {t : TypeId} {u v : Value} (h : plainV u = true) : (binOp .neq t u v).run P w = ((Op.equal t u v).run P w).andThen fun b w' => .ok (.bool (!b)) w' := by
  cases u <;> first | (cases h; done) | (cases v <;> simp [binOp])
theorem nilQ_ok {P : Program} {G : Gh} {w : World} (ht : G.tk 1 = some nilSl) {t : TypeId} {k : Kd} (hk : kdT P t = some k) {x y : AV} {u v : Value} (hx : V G w x u) (hy : V G w y v) {r : Bool} (h : nilQ k x y = some r) (o1 o2 : Operand) (op : BinOp) :
    ((eqGuard op t o1 o2 u v).run P w = .ok () w ∧ (Op.equal t u v).run P w = .ok r w) ∧ plainV u = true := by
  have hs1 : ∀ v, V G w (.sl 1 []) v → v = nilSl := by
    intro v hv
    generalize hq : AV.sl 1 [] = q at hv
    cases hv with
    | sl0 h =>
      injection hq with q1 q2
      subst q1
      rcases h with h | ⟨h, _⟩ | ⟨_, h⟩
      · cases h
      · cases h
      · rw [ht] at h; exact (Option.some.inj h).symm
    | sl f h0 hn => injection hq with q1 q2; subst q2; simp at hn; omega
    | _ => cases hq
  have hs2 : ∀ (tk : Nat) (z : List AV) (zs : List (List AV)) (v : Value), V G w (.sl tk (z :: zs)) v → ∃ b o n c, v = .slice (some ⟨b, o, none⟩) n c := by
    intro tk z zs v hv
    cases hv with
    | sl f h0 hn hc hm hs he htk hcl hV => exact ⟨_, _, _, _, rfl⟩
  have eg : (∀ cs, u ≠ .agg cs) → (u ≠ .nilIface ∨ v ≠ .nilIface) → (eqGuard op t o1 o2 u v).run P w = .ok () w := by
    intro h1 h2
    have go : ∀ op, (op = .eql ∨ op = .neq) → (eqGuard op t o1 o2 u v).run P w = .ok () w := by
      intro op ho
      unfold eqGuard
      rcases ho with rfl | rfl
      all_goals
        cases u <;> first
          | rfl
          | exact absurd rfl (h1 _)
          | (cases v <;> first
              | rfl
              | (rcases h2 with h2 | h2 <;> exact absurd rfl h2))
    cases op <;> first | rfl | exact go _ (.inl rfl) | exact go _ (.inr rfl)
  have fin : (∀ d, (Op.equalIn (d + 1) t u v).run P w = .ok r w) → (Op.equal t u v).run P w = .ok r w := fun h => h 9999
  have ru := fun {d : TypeDesc} (h : P.underlying t = some d) => run_underlyingT (P := P) (w := w) h
  unfold nilQ at h
  split at h <;> first | (cases h; done) | skip
  all_goals cases h
  case h_1 | h_2 | h_3 | h_4 | h_5 =>
    cases hx; cases hy
    obtain ⟨e, hu⟩ : ∃ e, P.underlying t = some (.pointer e) := by unfold kdT at hk; split at hk <;> first | exact ⟨_, by assumption⟩ | cases hk
    exact ⟨⟨eg (by rintro _ ⟨⟩) (.inl (by rintro ⟨⟩)), fin (fun d => by simp [Op.equalIn, ru hu])⟩, rfl⟩
  case h_6 | h_7 | h_8 =>
    cases hx; cases hy
    obtain ⟨e, e', hu⟩ : ∃ e e', P.underlying t = some (.map e e') := by unfold kdT at hk; split at hk <;> first | exact ⟨_, _, by assumption⟩ | cases hk
    exact ⟨⟨eg (by rintro _ ⟨⟩) (.inl (by rintro ⟨⟩)), fin (fun d => by simp [Op.equalIn, ru hu])⟩, rfl⟩
  case h_9 | h_10 | h_11 =>
    cases hx; cases hy
    obtain ⟨e, e', e'', hu⟩ : ∃ e e' e'', P.underlying t = some (.func e e' e'') := by unfold kdT at hk; split at hk <;> first | exact ⟨_, _, _, by assumption⟩ | cases hk
    exact ⟨⟨eg (by rintro _ ⟨⟩) (.inl (by rintro ⟨⟩)), fin (fun d => by simp [Op.equalIn, ru hu])⟩, rfl⟩
  case h_12 | h_13 | h_14 =>
    obtain ⟨e, hu⟩ : ∃ e, P.underlying t = some (.slice e) := by unfold kdT at hk; split at hk <;> first | exact ⟨_, by assumption⟩ | cases hk
    first
    | (cases hs1 _ hx; cases hs1 _ hy
       exact ⟨⟨eg (by rintro _ ⟨⟩) (.inl (by rintro ⟨⟩)), fin (fun d => by simp [Op.equalIn, ru hu, nilSl])⟩, rfl⟩)
    | (cases hs1 _ hy; obtain ⟨b, o, n, c, rfl⟩ := hs2 _ _ _ _ hx
       exact ⟨⟨eg (by rintro _ ⟨⟩) (.inl (by rintro ⟨⟩)), fin (fun d => by simp [Op.equalIn, ru hu, nilSl])⟩, rfl⟩)
    | (cases hs1 _ hx; obtain ⟨b, o, n, c, rfl⟩ := hs2 _ _ _ _ hy
       exact ⟨⟨eg (by rintro _ ⟨⟩) (.inl (by rintro ⟨⟩)), fin (fun d => by simp [Op.equalIn, ru hu, nilSl])⟩, rfl⟩)
  case h_15 | h_16 =>
    cases hx; cases hy
    obtain ⟨e, hu⟩ : ∃ e, P.underlying t = some (.interface e) := by unfold kdT at hk; split at hk <;> first | exact ⟨_, by assumption⟩ | cases hk
    refine ⟨⟨eg (by rintro _ ⟨⟩) ?_, fin (fun d => by simp [Op.equalIn, ru hu])⟩, rfl⟩
    first | (left; rintro ⟨⟩; done) | (right; rintro ⟨⟩; done)
/-! ### the operators -/
def bin (P : Program) (op : BinOp) (t : TypeId) (x y : AV) : Option AV :=
  match x, y with
  | .int k a, .int k' b => if k = k' then
      match op with
      | .add => some (.int k (k.wrap (a + b)))
      | .sub => some (.int k (k.wrap (a - b)))
      | .mul => some (.int k (k.wrap (a * b)))
      | .quo => if b = 0 then none else some (.int k (k.wrap (a.tdiv b)))
      | .rem => if b = 0 then none else some (.int k (a.tmod b))
      | .and => some (.int k (k.wrap (BitVec.ofInt k.bits a &&& BitVec.ofInt k.bits b).toNat))
      | .eql => some (.bool (a == b))
      | .neq => some (.bool (a != b))
      | .lss => some (.bool (decide (a < b)))
      | .leq => some (.bool (decide (a ≤ b)))
      | .gtr => some (.bool (decide (a > b)))
      | .geq => some (.bool (decide (a ≥ b)))
      | _ => none
    else none
  | .str a, .str b =>
    match op with
    | .add => if a.size + b.size ≤ 9223372036854775807 then some (.str (a ++ b)) else none
    | .eql => some (.bool (a.toList == b.toList))
    | .neq => some (.bool (!(a.toList == b.toList)))
    | .lss => some (.bool (Op.bytesLess a.toList b.toList))
    | .leq => some (.bool (Op.bytesLess a.toList b.toList || a.toList == b.toList))
    | .gtr => some (.bool (!(Op.bytesLess a.toList b.toList || a.toList == b.toList)))
    | .geq => some (.bool (!(Op.bytesLess a.toList b.toList)))
    | _ => none
  | .bool a, .bool b =>
    if boolT P t then
      match op with
      | .eql => some (.bool (a == b))
      | .neq => some (.bool (!(a == b)))
      | _ => none
    else none
  | .agg xs, .agg ys =>
    match op with
    | .eql => (flatT P t).bind fun l => (eqL l xs ys).map .bool
    | .neq => (flatT P t).bind fun l => (eqL l xs ys).map fun r => .bool (!r)
    | _ => none
  | x, y =>
    match op with
    | .eql => (kdT P t).bind fun k => (nilQ k x y).map .bool
    | .neq => (kdT P t).bind fun k => (nilQ k x y).map fun r => .bool (!r)
    | _ => none
def isC : Operand → Bool
  | .const _ => true
  | _ => false
def AV.isNili : AV → Bool
  | .nili => true
  | _ => false
/-- Two nil interfaces, one of them written as such. -/
def binG (P : Program) (op : BinOp) (t : TypeId) (c : Bool) (x y : AV) : Option AV :=
  if (c && x.isNili && y.isNili) = true then
    match op, kdT P t with
    | .eql, some .ifc => some (.bool true)
    | .neq, some .ifc => some (.bool false)
    | _, _ => none
  else bin P op t x y
def un (op : UnOp) (x : AV) : Option AV :=
  match op, x with
  | .not, .bool b => some (.bool (!b))
  | .neg, .int k n => some (.int k (k.wrap (0 - n)))
  | _, _ => none

theorem run_strAdd {P : Program} {w : World} {a b : ByteArray} (t : TypeId) (o1 o2 : Operand) (h : a.size + b.size ≤ 9223372036854775807) :
    (do eqGuard .add t o1 o2 (.string a) (.string b); binOp .add t (.string a) (.string b) : Sem Value).run P w = .ok (.string (a ++ b)) w := by
  have hn : ¬ ((a.size + b.size : Nat) : Int) > IntKind.i64.max := by
    have hi : IntKind.i64.max = 9223372036854775807 := by decide
    rw [hi]; omega
  have h1 : (eqGuard .add t o1 o2 (.string a) (.string b)).run P w = .ok () w := rfl
  have h2 : (binOp .add t (.string a) (.string b)).run P w = .ok (.string (a ++ b)) w := by
    show (Op.stringOp .add a b).run P w = _
    unfold Op.stringOp
    simp only [if_neg hn]
    rfl
  rw [Sem.run_bind, h1]
  exact h2
section
variable {P : Program} {G : Gh} {w : World}
theorem bin_ok {op : BinOp} {t : TypeId} {x y z : AV} {u v : Value} (ht : G.tk 1 = some nilSl) (o1 o2 : Operand) (hx : V G w x u) (hy : V G w y v) (h : bin P op t x y = some z) :
    ∃ r, (do eqGuard op t o1 o2 u v; binOp op t u v : Sem Value).run P w = .ok r w ∧ V G w z r := by
  unfold bin at h
  split at h
  · cases hx; cases hy
    split at h
    case isFalse => cases h
    rename_i hk
    subst hk
    split at h
    all_goals first | (cases h; fail) | skip
    all_goals (try (split at h <;> first | (cases h; done) | skip))
    all_goals first
      | (cases h; done)
      | (cases h; refine ⟨_, ?_, .int _ _⟩; simp [eqGuard, binOp, Op.intArith, Op.intDiv, Op.intBits, *]; done)
      | (cases h; refine ⟨_, ?_, .bool _⟩; simp [eqGuard, binOp, Op.intCmp, *]; done)
  · cases hx; cases hy
    split at h
    all_goals (try (split at h <;> first | (cases h; done) | skip))
    all_goals first
      | (cases h; done)
      | (cases h; refine ⟨_, ?_, .str _⟩; rename_i hle; exact run_strAdd t o1 o2 hle)
      | (cases h; refine ⟨_, ?_, .bool _⟩; simp [eqGuard, binOp, Op.stringOp]; done)
  · cases hx; cases hy
    split at h
    case isFalse => cases h
    rename_i hb
    have he := fun (w : World) a b => run_equal_bool (P := P) w t a b (boolT_ok hb)
    split at h
    all_goals first
      | (cases h; done)
      | (cases h; refine ⟨_, ?_, .bool _⟩; simp [eqGuard, binOp, he]; done)
  · split at h
    · obtain ⟨l, hf, h⟩ := Option.bind_eq_some_iff.1 h
      obtain ⟨r, he, rfl⟩ := Option.map_eq_some_iff.1 h
      obtain ⟨g1, g2⟩ := eqStruct_ok hf hx hy he o1 o2 .eql
      obtain ⟨X, rfl, _⟩ := hx.agg_inv
      obtain ⟨Y, rfl, _⟩ := hy.agg_inv
      refine ⟨.bool r, ?_, .bool _⟩
      simp only [Sem.run_bind, g1, Result.andThen, run_eql_struct]
      rw [show (Op.equalIn 10000 t (.agg X) (.agg Y)).run P w = .ok r w from g2]
    · obtain ⟨l, hf, h⟩ := Option.bind_eq_some_iff.1 h
      obtain ⟨r, he, rfl⟩ := Option.map_eq_some_iff.1 h
      obtain ⟨g1, g2⟩ := eqStruct_ok hf hx hy he o1 o2 .neq
      obtain ⟨X, rfl, _⟩ := hx.agg_inv
      obtain ⟨Y, rfl, _⟩ := hy.agg_inv
      refine ⟨.bool (!r), ?_, .bool _⟩
      simp only [Sem.run_bind, g1, Result.andThen, run_neq_struct]
      rw [show (Op.equalIn 10000 t (.agg X) (.agg Y)).run P w = .ok r w from g2]
    · cases h
  · split at h
    · obtain ⟨k, hk, h⟩ := Option.bind_eq_some_iff.1 h
      obtain ⟨r, he, rfl⟩ := Option.map_eq_some_iff.1 h
      obtain ⟨⟨g1, g2⟩, g3⟩ := nilQ_ok ht hk hx hy he o1 o2 .eql
      refine ⟨.bool r, ?_, .bool _⟩
      simp only [Sem.run_bind, g1, Result.andThen, run_eql_plain g3, g2]
    · obtain ⟨k, hk, h⟩ := Option.bind_eq_some_iff.1 h
      obtain ⟨r, he, rfl⟩ := Option.map_eq_some_iff.1 h
      obtain ⟨⟨g1, g2⟩, g3⟩ := nilQ_ok ht hk hx hy he o1 o2 .neq
      refine ⟨.bool (!r), ?_, .bool _⟩
      simp only [Sem.run_bind, g1, Result.andThen, run_neq_plain g3, g2]
    · cases h
theorem binG_ok {op : BinOp} {t : TypeId} {x y z : AV} {u v : Value} (ht : G.tk 1 = some nilSl) (o1 o2 : Operand) (hx : V G w x u) (hy : V G w y v) (h : binG P op t (isC o1 || isC o2) x y = some z) :
    ∃ r, (do eqGuard op t o1 o2 u v; binOp op t u v : Sem Value).run P w = .ok r w ∧ V G w z r := by
  unfold binG at h
  split at h
  case isFalse => exact bin_ok ht o1 o2 hx hy h
  rename_i hc
  simp only [Bool.and_eq_true] at hc
  obtain ⟨⟨hc, h1⟩, h2⟩ := hc
  have e1 : x = .nili := by cases x <;> first | rfl | cases h1
  have e2 : y = .nili := by cases y <;> first | rfl | cases h2
  subst e1; subst e2
  cases hx; cases hy
  have hi : ∀ k, kdT P t = some k → k = .ifc → ∃ e, P.underlying t = some (.interface e) := by
    rintro k hk rfl
    unfold kdT at hk
    split at hk <;> first | exact ⟨_, by assumption⟩ | cases hk
  have hg : ∀ op, (op = .eql ∨ op = .neq) → (eqGuard op t o1 o2 .nilIface .nilIface).run P w = .ok () w := by
    intro op ho
    unfold eqGuard
    have hcc : ((match o1 with | .const _ => true | _ => false) || (match o2 with | .const _ => true | _ => false)) = true := by
      cases o1 <;> cases o2 <;> first | rfl | cases hc
    rcases ho with rfl | rfl
    all_goals
      cases o1 <;> cases o2 <;> first | rfl | cases hc
  split at h
  · rename_i hk
    cases h
    obtain ⟨e, hu⟩ := hi _ hk rfl
    refine ⟨.bool true, ?_, .bool _⟩
    have : (Op.equal t .nilIface .nilIface).run P w = .ok true w := by
      show (Op.equalIn (9999 + 1) t .nilIface .nilIface).run P w = _
      have g : ∀ d, (Op.equalIn (d + 1) t .nilIface .nilIface).run P w = .ok true w := fun d => by simp [Op.equalIn, run_underlyingT (P := P) (w := w) hu]
      exact g 9999
    simp only [Sem.run_bind, hg _ (.inl rfl), Result.andThen, run_eql_plain (u := .nilIface) rfl, this]
  · rename_i hk
    cases h
    obtain ⟨e, hu⟩ := hi _ hk rfl
    refine ⟨.bool false, ?_, .bool _⟩
    have : (Op.equal t .nilIface .nilIface).run P w = .ok true w := by
      show (Op.equalIn (9999 + 1) t .nilIface .nilIface).run P w = _
      have g : ∀ d, (Op.equalIn (d + 1) t .nilIface .nilIface).run P w = .ok true w := fun d => by simp [Op.equalIn, run_underlyingT (P := P) (w := w) hu]
      exact g 9999
    simp only [Sem.run_bind, hg _ (.inr rfl), Result.andThen, run_neq_plain (u := .nilIface) rfl, this]
    rfl
  · cases h
theorem un_ok {op : UnOp} {x z : AV} {u : Value} (hx : V G w x u) (h : un op x = some z) : ∃ r, (Op.unary op u).run P w = .ok r w ∧ V G w z r := by
  unfold un at h
  split at h
  · cases hx; cases h; exact ⟨_, rfl, .bool _⟩
  · cases hx; cases h; exact ⟨_, rfl, .int _ _⟩
  · cases h
end
end Go.Proofs.AL
namespace Go.Proofs.AL
open Go Go.RowKit

/-! ### parts of values -/
def splice {α : Type} (off : Nat) (ys cs : List α) : List α := cs.take off ++ ys ++ cs.drop (off + ys.length)
theorem splice_length {α : Type} {off : Nat} {ys cs : List α} (h : off + ys.length ≤ cs.length) : (splice off ys cs).length = cs.length := by
  unfold splice; simp; omega
theorem splice_cons {α : Type} {off : Nat} {y : α} {ys cs : List α} (h : off + (y :: ys).length ≤ cs.length) : splice off (y :: ys) cs = splice (off + 1) ys (cs.set off y) := by
  simp only [List.length_cons] at h
  unfold splice
  apply List.ext_getElem?
  intro i
  have hl : off < cs.length := by omega
  have e1 : (cs.set off y).take (off + 1) = cs.take off ++ [y] := by
    rw [List.take_succ_eq_append_getElem (by simpa using hl), List.getElem_set_self, List.take_set_of_le (Nat.le_refl _)]
  have e2 : (cs.set off y).drop (off + 1 + ys.length) = cs.drop (off + (y :: ys).length) := by
    rw [List.drop_set_of_lt (by omega), List.length_cons]
    congr 1; omega
  rw [e1, e2]
  simp
theorem foldl_splice {off : Nat} : ∀ (us : List Value) (k : Nat) (arr : Array Value), off + k + us.length ≤ arr.size →
    (us.zipIdx k).foldl (fun cs (p : Value × Nat) => cs.setIfInBounds (off + p.2) p.1) arr = (splice (off + k) us arr.toList).toArray
  | [], k, arr, h => by simp [splice]
  | u :: us, k, arr, h => by
    simp only [List.length_cons] at h
    rw [List.zipIdx_cons, List.foldl_cons, foldl_splice us (k + 1) _ (by simp; omega)]
    congr 1
    rw [splice_cons (by simp; omega)]
    simp [Nat.add_assoc]
def bld (place : Nat → Option (Nat × Nat)) (cs : List AV) : List (Nat × AV) → Option (List AV)
  | [] => some cs
  | (i, x) :: rest => match place i with
    | none => none
    | some (off, size) => match x with
      | .tup _ => none
      | x => if x.cells.length = size ∧ off + size ≤ cs.length then bld place (splice off x.cells cs) rest else none

section
variable {P : Program} {G : Gh} {w : World}
theorem VL.splice {off : Nat} {xs cs : List AV} {us vs : List Value} (h : VL G w xs us) (k : VL G w cs vs) : VL G w (AL.splice off xs cs) (AL.splice off us vs) := by
  unfold AL.splice
  rw [h.1]
  exact ((k.take off).append h).append (k.drop _)
theorem bld_ok {place : Nat → Option (Nat × Nat)} : ∀ (parts : List (Nat × AV)) (ps : List (Nat × Value)) (cs : List AV) (arr : Array Value) (r : List AV), parts.length = ps.length →
    (∀ (k i j : Nat) (x : AV) (v : Value), parts[k]? = some (i, x) → ps[k]? = some (j, v) → i = j ∧ V G w x v) → VL G w cs arr.toList → bld place cs parts = some r →
    ∃ arr', Instr.fill place arr ps = some arr' ∧ VL G w r arr'.toList
  | [], [], cs, arr, r, _, _, hc, h => by cases h; exact ⟨arr, rfl, hc⟩
  | [], _ :: _, _, _, _, hl, _, _, _ => by simp at hl
  | _ :: _, [], _, _, _, hl, _, _, _ => by simp at hl
  | (i, x) :: parts, (j, v) :: ps, cs, arr, r, hl, hp, hc, h => by
    obtain ⟨rfl, hV⟩ := hp 0 i j x v rfl rfl
    unfold bld at h
    unfold Instr.fill
    cases hpl : place i with
    | none => rw [hpl] at h; cases h
    | some q =>
      obtain ⟨off, size⟩ := q
      rw [hpl] at h
      have hnt : ∀ vs, x ≠ .tup vs := by rintro vs rfl; cases h
      have h : (if x.cells.length = size ∧ off + size ≤ cs.length then bld place (splice off x.cells cs) parts else none) = some r := by
        cases x <;> first | exact h | exact absurd rfl (hnt _)
      split at h
      case isFalse => cases h
      rename_i hsz
      obtain ⟨hsz, hle⟩ := hsz
      have hVc := hV.cells hnt
      have h1 : v.cells.size = size := by have := hVc.1; simp at this; omega
      have h2 : arr.size = cs.length := by have := hc.1; simp at this; omega
      dsimp only
      have hcond : (v.cells.size ≠ size || off + v.cells.size > arr.size) = false := by
        simp [h1, h2]; omega
      have hf : Array.foldl (fun cs (p : Value × Nat) => cs.setIfInBounds (off + p.2) p.1) arr v.cells.zipIdx = (splice off v.cells.toList arr.toList).toArray := by
        rw [← Array.foldl_toList, Array.toList_zipIdx]
        exact foldl_splice v.cells.toList 0 arr (by simp; omega)
      have hstep := bld_ok parts ps (splice off x.cells cs) (splice off v.cells.toList arr.toList).toArray r (by simpa using hl)
        (fun k i j x v a b => hp (k + 1) i j x v (by simpa using a) (by simpa using b)) (by simpa using hVc.splice hc) h
      obtain ⟨arr', g1, g2⟩ := hstep
      refine ⟨arr', ?_, g2⟩
      rw [if_neg (by rw [hcond]; decide)]
      rw [← hf] at g1
      exact g1
end
end Go.Proofs.AL
namespace Go.Proofs.AL
open Go Go.RowKit
set_option linter.unusedSimpArgs false
set_option linter.unusedVariables false

/-! ## Maps: keys of plain kinds, or structs of such -/
def mapT (P : Program) (t : TypeId) : Option (TypeId × TypeId) := match P.underlying t with
  | some (.map k e) => some (k, e)
  | _ => none
def fitL : List Bt → List AV → Bool
  | [], [] => true
  | .int :: l, .int _ _ :: xs => fitL l xs
  | .str :: l, .str _ :: xs => fitL l xs
  | .bool :: l, .bool _ :: xs => fitL l xs
  | _, _ => false
/-- Is it a key of the type? -/
def kOk (P : Program) (kt : TypeId) : AV → Bool
  | .int _ _ => match bt P kt with | some .int => true | _ => false
  | .str _ => match bt P kt with | some .str => true | _ => false
  | .bool _ => match bt P kt with | some .bool => true | _ => false
  | .agg xs => match flatT P kt with | some l => fitL l xs | none => false
  | _ => false
/-- Are two keys the same? -/
def kEq (P : Program) (kt : TypeId) : AV → AV → Option Bool
  | .int k a, .int k' b => if k = k' then some (a == b) else none
  | .str a, .str b => some (a.toList == b.toList)
  | .bool a, .bool b => some (a == b)
  | .agg xs, .agg ys => (flatT P kt).bind fun l => eqL l xs ys
  | _, _ => none
def kFind (P : Program) (kt : TypeId) (k : AV) : List AV → Option (Option Nat)
  | [] => some none
  | x :: l => match kEq P kt k x with
    | some true => some (some 0)
    | some false => (kFind P kt k l).map (·.map (· + 1))
    | none => none
def mput (P : Program) (kt : TypeId) (ks vs : List AV) (k x : AV) : Option (List AV × List AV) :=
  if kOk P kt k = true then (kFind P kt k ks).map fun r => match r with
    | some i => (ks, vs.set i x)
    | none => (ks ++ [k], vs ++ [x])
  else none
def mget (P : Program) (kt e : TypeId) (ks vs : List AV) (k : AV) : Option (AV × Bool) :=
  if kOk P kt k = true then (kFind P kt k ks).bind fun r => match r with
    | some i => (vs[i]?).map fun x => (x, true)
    | none => (zeroT P e).map fun x => (x, false)
  else none
def asMpo : List AV → Option (List AV × List AV)
  | [.mpo ks vs] => some (ks, vs)
  | _ => none
def okTup (ok : Bool) (q : AV × Bool) : AV := if ok then .tup [q.1, .bool q.2] else q.1

section
variable {P : Program} {G : Gh} {w : World}
/-- What a plain value is. -/
def plainV? : AV → Option Value
  | .int k n => some (.int k n)
  | .str s => some (.string s)
  | .bool b => some (.bool b)
  | _ => none
theorem V.plain {x : AV} {v u : Value} (h : V G w x v) (hp : plainV? x = some u) : v = u := by
  cases h <;> cases hp <;> rfl
theorem eqL_true : ∀ {l : List Bt} {xs ys : List AV}, eqL l xs ys = some true → xs = ys
  | [], [], [], _ => rfl
  | [], [], _ :: _, h => by cases h
  | [], _ :: _, _, h => by cases h
  | b :: l, xs, ys, h => by
    unfold eqL at h
    split at h
    · cases ‹b :: l = []›
    · split at h
      case isFalse => cases h
      obtain ⟨r, hr, e⟩ := Option.map_eq_some_iff.1 h
      simp only [Bool.and_eq_true, beq_iff_eq] at e
      obtain ⟨rfl, rfl⟩ := e
      rename_i hk; subst hk
      rename_i hb; cases hb
      rw [eqL_true hr]
    · obtain ⟨r, hr, e⟩ := Option.map_eq_some_iff.1 h
      simp only [Bool.and_eq_true] at e
      obtain ⟨e1, rfl⟩ := e
      rename_i hb; cases hb
      rw [← beq_toListBytes, Go.MapKept.bytes_beq] at e1
      rw [e1, eqL_true hr]
    · obtain ⟨r, hr, e⟩ := Option.map_eq_some_iff.1 h
      simp only [Bool.and_eq_true, beq_iff_eq] at e
      obtain ⟨rfl, rfl⟩ := e
      rename_i hb; cases hb
      rw [eqL_true hr]
    · cases h
theorem kEq_true {kt : TypeId} {k x : AV} (h : kEq P kt k x = some true) : k = x := by
  unfold kEq at h
  split at h
  · split at h
    case isFalse => cases h
    rename_i hk; subst hk
    have := Option.some.inj h
    simp at this; rw [this]
  · have := Option.some.inj h
    rw [← beq_toListBytes, Go.MapKept.bytes_beq] at this
    rw [this]
  · have := Option.some.inj h
    simp at this; rw [this]
  · obtain ⟨l, hl, h⟩ := Option.bind_eq_some_iff.1 h
    rw [eqL_true h]
  · cases h

theorem fitL_plain : ∀ {l : List Bt} {xs : List AV}, fitL l xs = true → ∀ x ∈ xs, ∃ u, plainV? x = some u
  | [], [], _ => fun x hx => by cases hx
  | .int :: l, .int k n :: xs, h => fun x hx => (List.mem_cons.1 hx).elim (fun e => e ▸ ⟨_, rfl⟩) (fitL_plain (l := l) h x)
  | .str :: l, .str s :: xs, h => fun x hx => (List.mem_cons.1 hx).elim (fun e => e ▸ ⟨_, rfl⟩) (fitL_plain (l := l) h x)
  | .bool :: l, .bool b :: xs, h => fun x hx => (List.mem_cons.1 hx).elim (fun e => e ▸ ⟨_, rfl⟩) (fitL_plain (l := l) h x)
/-- A key tells its value. -/
theorem V.key {kt : TypeId} {k : AV} {u v : Value} (hk : kOk P kt k = true) (hu : V G w k u) (hv : V G w k v) : u = v := by
  cases k with
  | int => exact (hu.plain rfl).trans (hv.plain rfl).symm
  | str => exact (hu.plain rfl).trans (hv.plain rfl).symm
  | bool => exact (hu.plain rfl).trans (hv.plain rfl).symm
  | agg xs =>
    unfold kOk at hk
    dsimp only at hk
    split at hk
    case h_2 => cases hk
    rename_i l hl
    obtain ⟨X, rfl, h1, h2⟩ := hu.agg_inv
    obtain ⟨Y, rfl, h3, h4⟩ := hv.agg_inv
    congr 1
    apply Array.ext
    · simp at h1 h3; omega
    · intro i hi hj
      have hx : i < xs.length := by simp at h1; omega
      obtain ⟨q, hq⟩ := fitL_plain hk xs[i] (List.getElem_mem hx)
      have a1 := (h2 i xs[i] X[i] (List.getElem?_eq_getElem hx) (by simp [hi])).1
      have a2 := (h4 i xs[i] Y[i] (List.getElem?_eq_getElem hx) (by simp [hj])).1
      exact (a1.plain hq).trans (a2.plain hq).symm
  | _ => cases hk
theorem sameBits_key {kt : TypeId} {k : AV} {u : Value} (hk : kOk P kt k = true) (hu : V G w k u) (n : Nat) : Instr.sameBits (n + 2) u u = true := by
  have one : ∀ (m : Nat) (x : AV) (v q : Value), plainV? x = some q → V G w x v → Instr.sameBits m v v = true := by
    intro m x v q hq hv
    have := hv.plain hq
    subst this
    cases x <;> cases hq
    · simp [Instr.sameBits]
    · simp [Instr.sameBits]
    · unfold Instr.sameBits; exact (Go.MapKept.bytes_beq _ _).2 rfl
  cases k with
  | int => exact one _ _ _ _ rfl hu
  | str => exact one _ _ _ _ rfl hu
  | bool => exact one _ _ _ _ rfl hu
  | agg xs =>
    unfold kOk at hk
    dsimp only at hk
    split at hk
    case h_2 => cases hk
    obtain ⟨X, rfl, h1, h2⟩ := hu.agg_inv
    unfold Instr.sameBits
    simp only [beq_self_eq_true, Bool.true_and, List.all_eq_true]
    rintro ⟨a, b⟩ hab
    obtain ⟨i, hi⟩ := List.mem_iff_getElem?.1 hab
    rw [List.getElem?_zip_eq_some] at hi
    obtain ⟨e1, e2⟩ := hi
    rw [e1] at e2
    cases e2
    have hx : i < xs.length := by have := (List.getElem?_eq_some_iff.1 e1).1; simp at h1 this; omega
    obtain ⟨q, hq⟩ := fitL_plain hk xs[i] (List.getElem_mem hx)
    exact one _ _ _ q hq (h2 i xs[i] a (List.getElem?_eq_getElem hx) e1).1
  | _ => cases hk
theorem run_keyStays {kt : TypeId} {k : AV} {u : Value} (hk : kOk P kt k = true) (hu : V G w k u) : (Instr.keyThatStays u u).run P w = .ok u w := by
  unfold Instr.keyThatStays
  rw [if_pos (sameBits_key hk hu 9998)]
  rfl
theorem checkFields_ok (e : Bool) (n : Nat) (X : Array Value) : ∀ (fs : List Field) (k : Nat) (l : List Bt) (xs : List AV), btL P k fs = some l → fitL l xs = true →
    (∀ (i : Nat) (x : AV), xs[i]? = some x → ∃ v, X[k + i]? = some v ∧ V G w x v) →
    (forIn fs PUnit.unit (fun f r => (if f.name ≠ "_" then (do let v ← part f.type X f.offset; Instr.checkKey e (n + 1) f.type v; pure (ForInStep.yield PUnit.unit)) else pure (ForInStep.yield PUnit.unit) : Sem (ForInStep PUnit)))).run P w = .ok PUnit.unit w
  | [], k, l, xs, hb, hf, hx => rfl
  | f :: fs, k, l, xs, hb, hf, hx => by
    unfold btL at hb
    split at hb
    case isFalse => cases hb
    rename_i hc
    obtain ⟨ho, hn⟩ := hc
    obtain ⟨b, hb1, hb⟩ := Option.bind_eq_some_iff.1 hb
    obtain ⟨l', hl, rfl⟩ := Option.map_eq_some_iff.1 hb
    obtain ⟨x, xs', rfl, hf'⟩ : ∃ x xs', xs = x :: xs' ∧ fitL l' xs' = true := by
      cases b <;> (cases xs with
        | nil => cases hf
        | cons x xs' => cases x <;> first | exact ⟨_, _, rfl, hf⟩ | cases hf)
    obtain ⟨u, u1, u2⟩ := hx 0 x rfl
    have ih := checkFields_ok e n X fs (k + 1) l' xs' hl hf' (fun i z hz => by
      have := hx (i + 1) z (by simpa using hz)
      rwa [show k + (i + 1) = k + 1 + i by omega] at this)
    rw [Nat.add_zero] at u1
    have hck : (Instr.checkKey e (n + 1) f.type u).run P w = .ok () w := by
      unfold Instr.checkKey
      unfold bt at hb1
      cases hu : P.underlying f.type with
      | none => rw [hu] at hb1; cases hb1
      | some d =>
        rw [hu] at hb1
        simp only [Sem.run_bind, run_underlyingT hu, Result.andThen]
        cases d <;> first | (cases hb1; done) | (cases u <;> rfl)
    rw [List.forIn_cons]
    simp only [Sem.run_bind, if_pos hn, ho, bt_part hb1 u1, Result.andThen, hck, Sem.run_pure]
    exact ih
theorem checkKey_ok {kt : TypeId} {k : AV} {u : Value} (hk : kOk P kt k = true) (hu : V G w k u) (e : Bool) (n : Nat) : (Instr.checkKey e (n + 2) kt u).run P w = .ok () w := by
  have one : ∀ b, bt P kt = some b → (∀ cs, u ≠ .agg cs) → (Instr.checkKey e (n + 2) kt u).run P w = .ok () w := by
    intro b hb ha
    unfold Instr.checkKey
    unfold bt at hb
    cases hu' : P.underlying kt with
    | none => rw [hu'] at hb; cases hb
    | some d =>
      rw [hu'] at hb
      simp only [Sem.run_bind, run_underlyingT hu', Result.andThen]
      cases d <;> first | (cases hb; done) | (cases u <;> rfl)
  cases k with
  | int =>
    unfold kOk at hk
    dsimp only at hk
    split at hk
    · exact one _ (by assumption) (by cases hu; rintro _ ⟨⟩)
    · cases hk
  | str =>
    unfold kOk at hk
    dsimp only at hk
    split at hk
    · exact one _ (by assumption) (by cases hu; rintro _ ⟨⟩)
    · cases hk
  | bool =>
    unfold kOk at hk
    dsimp only at hk
    split at hk
    · exact one _ (by assumption) (by cases hu; rintro _ ⟨⟩)
    · cases hk
  | agg xs =>
    unfold kOk at hk
    dsimp only at hk
    split at hk
    case h_2 => cases hk
    rename_i l hl
    obtain ⟨X, rfl, h1, h2⟩ := hu.agg_inv
    unfold flatT at hl
    split at hl
    case h_2 => cases hl
    rename_i fs hu'
    split at hl
    case isFalse => cases hl
    have := checkFields_ok (G := G) (w := w) e n X fs.toList 0 l xs hl hk (fun i x hi => by
      have hil : i < X.size := by have := (List.getElem?_eq_some_iff.1 hi).1; simp at h1; omega
      exact ⟨X[i], by rw [Nat.zero_add]; exact Array.getElem?_eq_getElem hil, (h2 i x _ hi (by simp [hil])).1⟩)
    unfold Instr.checkKey
    simp only [Sem.run_bind, run_underlyingT hu', Result.andThen]
    rw [← Array.forIn_toList]
    rw [this]
    rfl
  | _ => cases hk
/-- What is found: where, and its value. -/
def foundAt (es : List MapEntry) (i0 : Nat) : Option Nat → Option (Nat × Value)
  | none => none
  | some i => (es[i]?).map fun e => (i0 + i, e.val)
theorem foundAt_succ (e : MapEntry) (es : List MapEntry) (i0 : Nat) (r : Option Nat) : foundAt (e :: es) i0 (r.map (· + 1)) = foundAt es (i0 + 1) r := by
  cases r with
  | none => rfl
  | some i => simp [foundAt, Nat.add_comm, Nat.add_left_comm]
theorem same_ok {kt : TypeId} {d : TypeDesc} (hd : P.underlying kt = some d) {k x : AV} {u v : Value} (hk : kOk P kt k = true) (hna : ∀ cs, k ≠ .agg cs) (hu : V G w k u) (hv : V G w x v) {b : Bool} (h : kEq P kt k x = some b) : Instr.sameNow d u v = some b := by
  cases k with
  | int k1 n1 =>
    cases x with
    | int k2 n2 =>
      cases hu; cases hv
      unfold kEq at h
      dsimp only at h
      split at h
      case isFalse => cases h
      rename_i e; subst e; cases h
      unfold kOk bt at hk
      rw [hd] at hk
      cases d <;> first | (cases hk; done) | simp [Instr.sameNow]
    | _ => cases h
  | str s1 =>
    cases x with
    | str s2 =>
      cases hu; cases hv
      cases h
      unfold kOk bt at hk
      rw [hd] at hk
      cases d <;> first | (cases hk; done) | simp [Instr.sameNow, beq_toListBytes]
    | _ => cases h
  | bool b1 =>
    cases x with
    | bool b2 =>
      cases hu; cases hv
      cases h
      unfold kOk bt at hk
      rw [hd] at hk
      cases d <;> first | (cases hk; done) | simp [Instr.sameNow]
    | _ => cases h
  | agg cs => exact absurd rfl (hna cs)
  | _ => cases hk
theorem findNow_ok {kt : TypeId} {d : TypeDesc} (hd : P.underlying kt = some d) {k : AV} {u : Value} (hk : kOk P kt k = true) (hna : ∀ cs, k ≠ .agg cs) (hu : V G w k u) : ∀ {ks : List AV} {es : List MapEntry} {r : Option Nat} (i0 : Nat), es.length = ks.length →
    (∀ (j : Nat) (x : AV) (e : MapEntry), ks[j]? = some x → es[j]? = some e → V G w x e.key) → kFind P kt k ks = some r → Instr.findNow d u es i0 = some (foundAt es i0 r)
  | [], [], r, i0, _, _, h => by cases h; rfl
  | [], _ :: _, _, _, hl, _, _ => by simp at hl
  | _ :: _, [], _, _, hl, _, _ => by simp at hl
  | x :: ks, e :: es, r, i0, hl, hV, h => by
    unfold kFind at h
    unfold Instr.findNow
    have hx := hV 0 x e rfl rfl
    split at h
    · rename_i hq
      cases h
      rw [same_ok hd hk hna hu hx hq]
      simp [foundAt]
    · rename_i hq
      obtain ⟨r', hr, rfl⟩ := Option.map_eq_some_iff.1 h
      rw [same_ok hd hk hna hu hx hq, foundAt_succ]
      exact findNow_ok hd hk hna hu (i0 + 1) (by simpa using hl) (fun j y e' a b => hV (j + 1) y e' (by simpa using a) (by simpa using b)) hr
    · cases h
theorem findAsking_ok {kt : TypeId} {xs : List AV} {u : Value} (hu : V G w (.agg xs) u) : ∀ {ks : List AV} {es : List MapEntry} {r : Option Nat} (i0 : Nat), es.length = ks.length →
    (∀ (j : Nat) (x : AV) (e : MapEntry), ks[j]? = some x → es[j]? = some e → V G w x e.key) → kFind P kt (.agg xs) ks = some r → (Instr.findAsking kt u es i0).run P w = .ok (foundAt es i0 r) w
  | [], [], r, i0, _, _, h => by cases h; rfl
  | [], _ :: _, _, _, hl, _, _ => by simp at hl
  | _ :: _, [], _, _, hl, _, _ => by simp at hl
  | x :: ks, e :: es, r, i0, hl, hV, h => by
    have hx := hV 0 x e rfl rfl
    have eq : ∀ b, kEq P kt (.agg xs) x = some b → (Op.equal kt u e.key).run P w = .ok b w := by
      intro b hb
      cases x with
      | agg ys =>
        obtain ⟨l, hl, hb⟩ := Option.bind_eq_some_iff.1 hb
        exact (eqStruct_ok hl hu hx hb (.func 0) (.func 0) .eql).2
      | _ => cases hb
    unfold kFind at h
    unfold Instr.findAsking
    split at h
    · rename_i hq
      cases h
      simp only [Sem.run_bind, eq _ hq, Result.andThen, if_true]
      simp [foundAt]
    · rename_i hq
      obtain ⟨r', hr, rfl⟩ := Option.map_eq_some_iff.1 h
      simp only [Sem.run_bind, eq _ hq, Result.andThen, Bool.false_eq_true, if_false]
      rw [foundAt_succ]
      exact findAsking_ok hu (i0 + 1) (by simpa using hl) (fun j y e' a b => hV (j + 1) y e' (by simpa using a) (by simpa using b)) hr
    · cases h
theorem findKey_ok {kt : TypeId} {k : AV} {u : Value} (hk : kOk P kt k = true) (hu : V G w k u) {ks : List AV} {es : List MapEntry} {r : Option Nat} (hl : es.length = ks.length)
    (hV : ∀ (j : Nat) (x : AV) (e : MapEntry), ks[j]? = some x → es[j]? = some e → V G w x e.key) (h : kFind P kt k ks = some r) : (Instr.findKey kt u es).run P w = .ok (foundAt es 0 r) w := by
  have hd : ∃ d, P.underlying kt = some d := by
    cases hq : P.underlying kt with
    | some d => exact ⟨d, rfl⟩
    | none => cases k <;> first | (cases hk; done) | (unfold kOk bt at hk; rw [hq] at hk; cases hk) | (unfold kOk flatT at hk; rw [hq] at hk; cases hk)
  obtain ⟨d, hd⟩ := hd
  unfold Instr.findKey
  simp only [Sem.run_bind, run_underlyingT hd, Result.andThen]
  by_cases ha : ∃ xs, k = .agg xs
  · obtain ⟨xs, rfl⟩ := ha
    cases es with
    | nil =>
      cases ks with
      | nil => cases h; rfl
      | cons => simp at hl
    | cons e es =>
      have hn : Instr.findNow d u (e :: es) 0 = none := by
        obtain ⟨X, rfl, _⟩ := hu.agg_inv
        unfold Instr.findNow
        have : Instr.sameNow d (.agg X) e.key = none := by cases d <;> rfl
        rw [this]
      rw [hn]
      exact findAsking_ok hu 0 hl hV h
  · have hna : ∀ cs, k ≠ .agg cs := fun cs e => ha ⟨cs, e⟩
    rw [findNow_ok hd hk hna hu 0 hl hV h]
    rfl
theorem kFind_lt {kt : TypeId} {k : AV} : ∀ {ks : List AV} {i : Nat}, kFind P kt k ks = some (some i) → ks[i]? = some k
  | [], i, h => by cases h
  | x :: ks, i, h => by
    unfold kFind at h
    split at h
    · rename_i hq; cases h; rw [kEq_true hq]; rfl
    · obtain ⟨r, hr, e⟩ := Option.map_eq_some_iff.1 h
      cases r with
      | none => cases e
      | some j => cases e; have := kFind_lt hr; simpa using this
    · cases h
end
end Go.Proofs.AL
namespace Go.Proofs.AL
open Go Go.RowKit

def byteAt (s : ByteArray) (i : Int) : Int := if h : i.toNat < s.size then ((s[i.toNat]'h).toNat : Int) else 0
def fldAt (P : Program) (t : TypeId) (i : Nat) (cs : List AV) : Option AV :=
  match fldT P t i with
  | none => none
  | some (off, u) => match aggT P u, szOf P u with
    | some true, some n => if off + n ≤ cs.length then some (.agg ((cs.drop off).take n)) else none
    | some false, _ => cs[off]?
    | _, _ => none
def fldAddr (P : Program) (t : TypeId) (i : Nat) (x : AV) : Option AV :=
  match fldT P t i with
  | none => none
  | some (off, u) => match szOf P u with
    | none => none
    | some 0 => none
    | some _ => match x with
      | .ptr id o => some (.ptr id (o + off))
      | .cptr cs => some (.cptr (cs.drop off))
      | .eptr t j o sz => some (.eptr t j (o + off) sz)
      | _ => none
def arT (P : Program) (t : TypeId) : Option (Nat × TypeId) := match P.underlying t with
  | some (.array n e) => some (n, e)
  | _ => none
theorem arT_ok {P : Program} {t : TypeId} {n : Nat} {e : TypeId} (h : arT P t = some (n, e)) : P.underlying t = some (.array n e) := by
  unfold arT at h; split at h <;> cases h; assumption
/-- A place in an array. -/
def idxArr (P : Program) (t : TypeId) (x i : AV) : Option AV :=
  match arT P t with
  | none => none
  | some (len, e) => match szOf P e with
    | none => none
    | some sz => match x, i with
      | .cptr cs, .int _ n => if 0 ≤ n ∧ n < len then some (.cptr (cs.drop (n.toNat * sz))) else none
      | .ptr id off, .int _ n => if 0 ≤ n ∧ n < len then some (.ptr id (off + n.toNat * sz)) else none
      | _, _ => none
def chunk : Nat → Nat → List AV → List (List AV)
  | 0, _, _ => []
  | k + 1, sz, cs => cs.take sz :: chunk k sz (cs.drop sz)
def idxAddr (P : Program) (t : TypeId) (x i : AV) : Option AV :=
  match elT P t, x, i with
  | some e, .sl _ xs, .int _ n => match szOf P e with
    | none => none
    | some sz => if 0 ≤ n ∧ n < xs.length then (if ∀ el ∈ xs, el.length = sz then some (.cptr (xs.getD n.toNat [])) else none) else none
  | some e, .own t m, .int _ n => match szOf P e with
    | none => none
    | some sz => if 0 ≤ n ∧ n < m then some (.eptr t n.toNat 0 sz) else none
  | _, x, i => idxArr P t x i
def idx (P : Program) (t : TypeId) (x i : AV) : Option AV :=
  match x, i with
  | .str s, .int _ n => if strT P t = true ∧ 0 ≤ n ∧ n < s.size then some (.int .u8 (byteAt s n)) else none
  | _, _ => none
def bnd (d : Int) : Option (Option AV) → Option Int
  | none => some d
  | some (some (.int _ n)) => some n
  | _ => none
def cutAt (P : Program) (t : TypeId) (x : AV) (lo hi : Option (Option AV)) : Option AV :=
  match x with
  | .str s => match bnd 0 lo, bnd s.size hi with
    | some l, some h => if strT P t = true ∧ 0 ≤ l ∧ l ≤ h ∧ h ≤ s.size then some (.str (s.extract l.toNat h.toNat)) else none
    | _, _ => none
  | .sl _ xs => match elT P t, bnd 0 lo, bnd xs.length hi with
    | some e, some l, some h => match szOf P e with
      | none => none
      | some sz => if 0 ≤ l ∧ l ≤ h ∧ h ≤ xs.length then (if ∀ el ∈ xs, el.length = sz then some (.sl 0 ((xs.take h.toNat).drop l.toNat)) else none) else none
    | _, _, _ => none
  | _ => none
/-- An array, cut. -/
def cutArr (P : Program) (t : TypeId) (x : AV) (l h m : Int) : Option AV :=
  match arT P t with
  | none => none
  | some (n, e) => match szOf P e, x with
    | some sz, .cptr cs => if 0 ≤ l ∧ l < h ∧ h ≤ m ∧ m ≤ n ∧ cs.length = n * sz ∧ 0 < sz ∧ n ≤ maxLen then some (.sl 0 (chunk (h - l).toNat sz (cs.drop (l.toNat * sz)))) else none
    | _, _ => none
def arrN (P : Program) (t : TypeId) : Int := match arT P t with
  | some (n, _) => n
  | none => -1
def cutA (P : Program) (t : TypeId) (x : AV) (lo hi : Option (Option AV)) : Option AV :=
  match x with
  | .cptr cs => match bnd 0 lo, bnd (arrN P t) hi with
    | some l, some h => cutArr P t (.cptr cs) l h (arrN P t)
    | _, _ => none
  | x => cutAt P t x lo hi
def cut3 (P : Program) (t : TypeId) (x : AV) (lo hi mx : Option (Option AV)) : Option AV :=
  match lo, hi, mx with
  | some (some (.int _ l)), some (some (.int _ h)), some (some (.int _ m)) => cutArr P t x l h m
  | _, _, _ => none
def concT (P : Program) (t : TypeId) : Bool := match P.underlying t with
  | none => false
  | some (.interface _) => false
  | some _ => true
def mkIfc (P : Program) (t : TypeId) (x : AV) : Option AV := if concT P t = true then some (.ifc t x) else none
def byt : List (List AV) → Option (List Int)
  | [] => some []
  | [.int .u8 n] :: l => (byt l).map (n :: ·)
  | _ => none
def bytesB (ns : List Int) : ByteArray := ns.foldl (fun r n => r.push (UInt8.ofNat n.toNat)) ByteArray.empty
def elU8 (P : Program) (t : TypeId) : Bool := match elT P t with
  | some e => intT P e == some .u8
  | none => false
def conv (P : Program) (src dst : TypeId) (x : AV) : Option AV :=
  match P.underlying src with
  | none => none
  | some _ => match intT P dst, x with
    | some k, .int _ n => some (.int k (k.wrap n))
    | none, .str s => if strT P dst = true then some (.str s) else none
    | none, .sl _ (x :: xs) => if strT P dst = true ∧ elU8 P src = true then (byt (x :: xs)).map fun ns => .str (bytesB ns) else none
    | _, _ => none
def lenOf (P : Program) (t : TypeId) (x : AV) : Option AV :=
  match x with
  | .str s => if strT P t = true then some (.int .i64 s.size) else none
  | .sl _ xs => match elT P t with
    | some _ => some (.int .i64 xs.length)
    | none => none
  | .own _ n => match elT P t with
    | some _ => some (.int .i64 n)
    | none => none
  | _ => none
def mn2 (x y : AV) : Option AV := match x, y with
  | .int k a, .int _ b => some (.int k (if b < a then b else a))
  | _, _ => none
def mx2 (x y : AV) : Option AV := match x, y with
  | .int k a, .int _ b => some (.int k (if a < b then b else a))
  | _, _ => none
def evalL (s : AS) : List Operand → Option (List AV)
  | [] => some []
  | x :: l => match evalO s x, evalL s l with
    | some y, some ys => some (y :: ys)
    | _, _ => none
def evalP (s : AS) : List (Nat × Operand) → Option (List (Nat × AV))
  | [] => some []
  | (i, x) :: l => match evalO s x, evalP s l with
    | some y, some ys => some ((i, y) :: ys)
    | _, _ => none
def evalH (s : AS) : Option Operand → Option (Option AV)
  | none => none
  | some x => some (evalO s x)

def asTup : AV → Option (List AV)
  | .tup vs => some vs
  | _ => none
def asAggL : AV → Option (List AV)
  | .agg cs => some cs
  | _ => none
def asAddrA : AV → Option AV
  | .ptr i o => some (.ptr i o)
  | .cptr cs => some (.cptr cs)
  | _ => none
def isStruct (P : Program) (t : TypeId) : Bool := match P.underlying t with
  | some (.struct fs) => fs.toList.all fun f => (szOf P f.type).isSome
  | _ => false
def fldPl (P : Program) (t : TypeId) (i : Nat) : Option (Nat × Nat) := (fldT P t i).bind fun q => (szOf P q.2).map fun n => (q.1, n)
/-- An operation that only computes. -/
def evP (P : Program) (s : AS) (op : Op) : Option AV :=
  match op with
  | .move x => evalO s x
  | .assign x => evalO s x
  | .pick c x y => match evalO s c with
    | some (.bool true) => evalO s x
    | some (.bool false) => evalO s y
    | _ => none
  | .binOp op t x y _ => (evalO s x).bind fun a => (evalO s y).bind fun b => binG P op t (isC x || isC y) a b
  | .unOp op _ x => (evalO s x).bind fun a => un op a
  | .extract x i => ((evalO s x).bind asTup).bind fun vs => vs[i]?
  | .build t ps => if isStruct P t then ((zeroT P t).bind asAggL).bind fun z => (evalP s ps.toList).bind fun qs => (bld (fldPl P t) z qs).map .agg else none
  | .field t x i => ((evalO s x).bind asAggL).bind fun cs => fldAt P t i cs
  | .fieldAddr t x i => (evalO s x).bind fun a => fldAddr P t i a
  | .indexAddr t x i => (evalO s x).bind fun a => (evalO s i).bind fun b => idxAddr P t a b
  | .index t x i => (evalO s x).bind fun a => (evalO s i).bind fun b => idx P t a b
  | .slice t x lo hi mx => match mx with
    | none => (evalO s x).bind fun a => cutA P t a (evalH s lo) (evalH s hi)
    | some m => (evalO s x).bind fun a => cut3 P t a (evalH s lo) (evalH s hi) (evalH s (some m))
  | .makeInterface t x => (evalO s x).bind fun a => mkIfc P t a
  | .convert src dst x => (evalO s x).bind fun a => conv P src dst a
  | .nilCheck x => (evalO s x).bind asAddrA
  | .makeFunc f fs cs => match f with
    | .func _ => (evalL s fs.toList).bind fun a => (evalL s cs.toList).bind fun b => some (.fn f a b)
    | _ => none
  | .call c => match c.callee with
    | .builtin .len => match evalL s c.args.toList with
      | some [a] => (c.argTypes[0]?).bind fun t => lenOf P t a
      | _ => none
    | .builtin .min => match evalL s c.args.toList with
      | some [a, b] => mn2 a b
      | _ => none
    | .builtin .max => match evalL s c.args.toList with
      | some [a, b] => mx2 a b
      | _ => none
    | _ => none
  | _ => none

section
variable {C : Cx} {E : Env} {G : Gh} {s : AS} {a : Act} {w : World} {P : Program}
theorem V.int_inv {k : IntKind} {n : Int} {v : Value} (h : V G w (.int k n) v) : v = .int k n := by cases h; rfl
theorem V.str_inv {s : ByteArray} {v : Value} (h : V G w (.str s) v) : v = .string s := by cases h; rfl
theorem V.bool_inv {b : Bool} {v : Value} (h : V G w (.bool b) v) : v = .bool b := by cases h; rfl
theorem V.tup_inv {cs : List AV} {v : Value} (h : V G w (.tup cs) v) : ∃ vs : Array Value, v = .tuple vs ∧ cs.length = vs.size ∧ ∀ (i : Nat) (c : AV), cs[i]? = some c → ∀ u, vs[i]? = some u → V G w c u := by
  cases h with
  | tup a b => exact ⟨_, rfl, a, b⟩
theorem VL.get {cs : List AV} {vs : Array Value} (h : VL G w cs vs.toList) {i : Nat} {x : AV} (hi : cs[i]? = some x) : ∃ v, vs[i]? = some v ∧ V G w x v ∧ v.oneCell' = true := by
  have hl : i < vs.size := by have := (List.getElem?_eq_some_iff.1 hi).1; have := h.1; simp at this; omega
  exact ⟨vs[i], Array.getElem?_eq_getElem hl, h.2 i x _ hi (by simp [hl])⟩
theorem part_ok {t : TypeId} {off : Nat} {cs : List AV} {vs : Array Value} {x : AV} (h : VL G w cs vs.toList)
    (hx : (match aggT P t, szOf P t with | some true, some n => if off + n ≤ cs.length then some (AV.agg ((cs.drop off).take n)) else none | some false, _ => cs[off]? | _, _ => none) = some x) :
    ∃ v, (part t vs off).run P w = .ok v w ∧ V G w x v := by
  unfold part
  cases ha : aggT P t with
  | none => rw [ha] at hx; cases hx
  | some b =>
    simp only [Sem.run_bind, run_aggT ha, Result.andThen]
    cases b with
    | true =>
      cases hn : szOf P t with
      | none => rw [ha, hn] at hx; cases hx
      | some n =>
        rw [ha, hn] at hx
        dsimp only at hx
        split at hx
        case isFalse => cases hx
        cases hx
        refine ⟨_, ?_, VL.agg (vs := vs.extract off (off + n)) ?_⟩
        · simp only [if_true, Sem.run_bind, run_szOf hn, Result.andThen]; rfl
        · have := (h.drop off).take n
          simpa [Array.toList_extract, List.extract_eq_take_drop] using this
    | false =>
      rw [ha] at hx
      obtain ⟨v, h1, h2, _⟩ := h.get hx
      refine ⟨v, ?_, h2⟩
      simp only [h1]; rfl
theorem evalL_ok (h : Rel C E G s a w) : ∀ {l : List Operand} {xs : List AV}, evalL s l = some xs → xs.length = l.length ∧ ∀ (i : Nat) (x : AV) (y : Operand), xs[i]? = some x → l[i]? = some y → V G w x (a.eval y)
  | [], xs, hx => by cases hx; exact ⟨rfl, fun i x y h => by simp at h⟩
  | y :: l, xs, hx => by
    unfold evalL at hx
    cases h1 : evalO s y with
    | none => rw [h1] at hx; cases hx
    | some z =>
      cases h2 : evalL s l with
      | none => rw [h1, h2] at hx; cases hx
      | some zs =>
        rw [h1, h2] at hx
        cases hx
        obtain ⟨k1, k2⟩ := evalL_ok h h2
        refine ⟨by simp [k1], fun i x y' hx hy => ?_⟩
        cases i with
        | zero => simp at hx hy; subst hx; subst hy; exact h.eval h1
        | succ i => exact k2 i x y' (by simpa using hx) (by simpa using hy)
theorem evalP_ok (h : Rel C E G s a w) : ∀ {l : List (Nat × Operand)} {xs : List (Nat × AV)}, evalP s l = some xs → xs.length = l.length ∧ ∀ (k i j : Nat) (x : AV) (y : Operand), xs[k]? = some (i, x) → l[k]? = some (j, y) → i = j ∧ V G w x (a.eval y)
  | [], xs, hx => by cases hx; exact ⟨rfl, fun i _ _ x y h => by simp at h⟩
  | (n, y) :: l, xs, hx => by
    unfold evalP at hx
    cases h1 : evalO s y with
    | none => rw [h1] at hx; cases hx
    | some z =>
      cases h2 : evalP s l with
      | none => rw [h1, h2] at hx; cases hx
      | some zs =>
        rw [h1, h2] at hx
        cases hx
        obtain ⟨k1, k2⟩ := evalP_ok h h2
        refine ⟨by simp [k1], fun k i j x y' hx hy => ?_⟩
        cases k with
        | zero => simp at hx hy; obtain ⟨rfl, rfl⟩ := hx; obtain ⟨rfl, rfl⟩ := hy; exact ⟨rfl, h.eval h1⟩
        | succ k => exact k2 k i j x y' (by simpa using hx) (by simpa using hy)
theorem V.sl_sizes {t : Nat} {xs : List (List AV)} {v : Value} (h : V G w (.sl t xs) v) : ∃ A c, v = .slice A xs.length c ∧ xs.length ≤ c ∧ xs.length ≤ maxLen := by
  cases h with
  | sl0 _ => exact ⟨_, _, rfl, Nat.zero_le _, Nat.zero_le _⟩
  | sl f a b c d e g h i j => subst b; exact ⟨_, _, rfl, c, Nat.le_trans c d⟩
/-- An element's cells, where they lie. -/
theorem idxArr_ok {t : TypeId} {x i z : AV} {u v : Value} (hx : V G w x u) (hi : V G w i v) (h : idxArr P t x i = some z) : ∃ r, (Instr.indexAt t u v).run P w = .ok r w ∧ V G w z r := by
  unfold idxArr at h
  cases ha : arT P t with
  | none => rw [ha] at h; cases h
  | some q =>
    obtain ⟨len, e⟩ := q
    rw [ha] at h
    dsimp only at h
    cases hs : szOf P e with
    | none => rw [hs] at h; cases h
    | some sz =>
      rw [hs] at h
      dsimp only at h
      have run_ : ∀ (k : IntKind) (n : Int) (b o : Nat), 0 ≤ n ∧ n < len → (Instr.indexAt t (.pointer (some ⟨b, o, none⟩)) (.int k n)).run P w = .ok (.pointer (some ⟨b, o + n.toNat * sz, none⟩)) w := by
        intro k n b o hn
        unfold Instr.indexAt
        simp only [Sem.run_bind, asIntOf, Sem.run_pure, Result.andThen, run_underlyingT (arT_ok ha), Instr.sureAddr, hn, and_self, if_true, run_szOf hs, Addr.add_lit]
      split at h
      · rename_i cs kk n
        split at h
        case isFalse => cases h
        rename_i hb
        cases h
        cases hi
        cases hx with
        | cptr g hc hV => exact ⟨_, run_ _ _ _ _ hb, .cptr (fun k => g (n.toNat * sz + k)) (fun k y hk => by
            rw [List.getElem?_drop] at hk
            obtain ⟨c1, c2, c3⟩ := hc _ y hk
            rw [Nat.add_assoc]; exact ⟨c1, c2, c3⟩) (fun k y hk => by rw [List.getElem?_drop] at hk; exact hV _ y hk)⟩
      · split at h
        case isFalse => cases h
        rename_i hb
        cases h
        cases hi
        cases hx with
        | ptr h1 h2 => exact ⟨_, run_ _ _ _ _ hb, .ptr h1 h2⟩
      · cases h
theorem idxAddr_ok {t : TypeId} {x i z : AV} {u v : Value} (hx : V G w x u) (hi : V G w i v) (h : idxAddr P t x i = some z) : ∃ r, (Instr.indexAt t u v).run P w = .ok r w ∧ V G w z r := by
  unfold idxAddr at h
  split at h
  case h_2 =>
    rename_i e t' m k n he
    cases hs : szOf P e with
    | none => rw [hs] at h; cases h
    | some sz =>
      rw [hs] at h
      dsimp only at h
      split at h
      case isFalse => cases h
      rename_i hb
      cases h
      cases hi
      cases hx with
      | @own _ _ c A h0 ht =>
        obtain ⟨g, rfl⟩ : ∃ g, A = some ⟨g, 0, none⟩ := by
          rcases h0 with h0 | h0
          · omega
          · exact h0
        refine ⟨.pointer (some ⟨g, 0 + n.toNat * sz, none⟩), ?_, ?_⟩
        · unfold Instr.indexAt
          simp only [Sem.run_bind, asIntOf, Sem.run_pure, Result.andThen, run_underlyingT (elT_ok he)]
          have hd : (0 ≤ n ∧ n < (m : Int)) := hb
          simp only [hd, and_self, if_true, Sem.run_bind, run_szOf hs, Result.andThen, Addr.add_lit]
          rfl
        · rw [Nat.zero_add]; exact .eptr ht
  case h_3 => exact idxArr_ok hx hi h
  rename_i e tk xs k n he
  cases hs : szOf P e with
  | none => rw [hs] at h; cases h
  | some sz =>
    rw [hs] at h
    dsimp only at h
    split at h
    case isFalse => cases h
    rename_i hb
    split at h
    case isFalse => cases h
    rename_i hall
    cases h
    cases hi
    cases hx with
    | sl0 _ => simp at hb; omega
    | @sl _ _ b o m c sz' f hm0 hm hc hcm hs0 hel htk hcell hV =>
      subst hm
      have hlt : n.toNat < xs.length := by omega
      have hg : xs[n.toNat]? = some (xs.getD n.toNat []) := by rw [List.getD_eq_getElem?_getD, List.getElem?_eq_getElem hlt]; rfl
      have hsz : sz' = sz := by
        have h1 := hel _ (List.mem_of_getElem? hg)
        have h2 := hall _ (List.mem_of_getElem? hg)
        omega
      subst hsz
      refine ⟨.pointer (some ⟨b, o + n.toNat * sz', none⟩), ?_, .cptr (fun q => f n.toNat q) (fun q y hq => ?_) (fun q y hq => hV _ q _ y hg hq)⟩
      · unfold Instr.indexAt
        simp only [Sem.run_bind, asIntOf, Sem.run_pure, Result.andThen, run_underlyingT (elT_ok he)]
        have hd : (0 ≤ n ∧ n < (xs.length : Int)) := hb
        simp only [hd, and_self, if_true, Sem.run_bind, run_szOf hs, Result.andThen, Addr.add_lit]
        rfl
      · obtain ⟨c1, c2, c3⟩ := hcell _ q _ y hg hq
        rw [Nat.add_assoc]
        exact ⟨c1, c2, c3⟩
theorem fldAt_ok {t : TypeId} {i : Nat} {cs : List AV} {z : AV} {u : Value} (hx : V G w (.agg cs) u) (h : fldAt P t i cs = some z) : ∃ r, (Instr.field t u i).run P w = .ok r w ∧ V G w z r := by
  obtain ⟨vs, rfl, hl⟩ := hx.agg_inv
  unfold fldAt at h
  cases hf : fldT P t i with
  | none => rw [hf] at h; cases h
  | some q =>
    obtain ⟨off, ty⟩ := q
    rw [hf] at h
    dsimp only at h
    unfold fldT at hf
    split at hf
    case h_2 => cases hf
    rename_i fs hu
    obtain ⟨f, hf1, hf2⟩ := Option.map_eq_some_iff.1 hf
    cases hf2
    obtain ⟨r, h1, h2⟩ := part_ok (P := P) (t := f.type) (off := f.offset) hl h
    refine ⟨r, ?_, h2⟩
    unfold Instr.field
    simp only [Sem.run_bind, run_underlyingT hu, Result.andThen, hf1, asAgg, Sem.run_pure, h1]
theorem fldAddr_ok {t : TypeId} {i : Nat} {x z : AV} {u : Value} (hx : V G w x u) (h : fldAddr P t i x = some z) : ∃ r, (Instr.fieldAt t u i).run P w = .ok r w ∧ V G w z r := by
  unfold fldAddr at h
  cases hf : fldT P t i with
  | none => rw [hf] at h; cases h
  | some q =>
    obtain ⟨off, ty⟩ := q
    rw [hf] at h
    dsimp only at h
    unfold fldT at hf
    split at hf
    case h_2 => cases hf
    rename_i fs hu
    obtain ⟨f, hf1, hf2⟩ := Option.map_eq_some_iff.1 hf
    cases hf2
    split at h
    · cases h
    · cases h
    rename_i sz hsz hn
    have run_ : ∀ b o, (Instr.fieldAt t (.pointer (some ⟨b, o, none⟩)) i).run P w = .ok (.pointer (some ⟨b, o + f.offset, none⟩)) w := by
      intro b o
      unfold Instr.fieldAt
      simp only [Sem.run_bind, run_underlyingT hu, Result.andThen, hf1, Instr.sureAddr, Sem.run_pure, fieldPlace, run_szOf hn]
      rw [if_neg (by intro e; exact hsz e)]
      simp only [Sem.run_pure, Addr.add_lit]
    split at h
    · cases h
      cases hx with
      | ptr hb hk => exact ⟨_, run_ _ _, .ptr hb hk⟩
    · cases h
      cases hx with
      | cptr g hc hV => exact ⟨_, run_ _ _, .cptr (fun k => g (f.offset + k)) (fun k y hk => by
          rw [List.getElem?_drop] at hk
          obtain ⟨c1, c2, c3⟩ := hc _ y hk
          rw [Nat.add_assoc]; exact ⟨c1, c2, c3⟩) (fun k y hk => by rw [List.getElem?_drop] at hk; exact hV _ y hk)⟩
    · cases h
      cases hx with
      | eptr ht => exact ⟨_, run_ _ _, by rw [Nat.add_assoc]; exact .eptr ht⟩
    · cases h
end
end Go.Proofs.AL
namespace Go.Proofs.AL
open Go Go.RowKit
set_option linter.unusedSimpArgs false

section
variable {C : Cx} {E : Env} {G : Gh} {s : AS} {a : Act} {w : World} {P : Program}
theorem idx_ok {t : TypeId} {x i z : AV} {u v : Value} (hx : V G w x u) (hi : V G w i v) (h : idx P t x i = some z) : ∃ r, (Instr.index t u v).run P w = .ok r w ∧ V G w z r := by
  unfold idx at h
  split at h
  case h_2 => cases h
  rename_i b k n
  split at h
  case isFalse => cases h
  rename_i hc
  obtain ⟨ht, h0, h1⟩ := hc
  cases h
  cases hx; cases hi
  have hlt : n.toNat < b.size := by omega
  refine ⟨.int .u8 (byteAt b n), ?_, .int _ _⟩
  unfold Instr.index
  simp only [Sem.run_bind, asIntOf, Sem.run_pure, Result.andThen, run_underlyingT (strT_ok ht)]
  have hg : (if 0 ≤ n then b[n.toNat]? else none) = some (b[n.toNat]'hlt) := by rw [if_pos h0]; exact getElem?_pos b n.toNat hlt
  rw [hg]
  simp only [Sem.run_pure, byteAt, dif_pos hlt]
theorem bnd_inv {d : Int} {o : Option (Option AV)} {l : Int} (h : bnd d o = some l) : (o = none ∧ l = d) ∨ ∃ k, o = some (some (.int k l)) := by
  unfold bnd at h
  split at h
  · cases h; exact .inl ⟨rfl, rfl⟩
  · cases h; exact .inr ⟨_, rfl⟩
  · cases h
theorem sb_run {k : IntKind} {l : Int} {v : Value} (hv : V G w (.int k l) v) {y : Nat} (code : BoundsCode) (h0 : 0 ≤ l) (h1 : l ≤ y) : (Instr.sliceBound v y code).run P w = .ok l.toNat w := by
  cases hv
  unfold Instr.sliceBound
  simp only [Sem.run_bind, asIntOf, Sem.run_pure, Result.andThen, h0, h1, and_self, if_true]
theorem cut_bounds {isSl : Bool} {len cap : Nat} {lo hi : Option (Option AV)} {l h : Int} {lv hv : Option Value} (hl : bnd 0 lo = some l) (hh : bnd len hi = some h) (h0 : 0 ≤ l) (h1 : l ≤ h) (h2 : h ≤ len) (h3 : len ≤ cap)
    (hlV : ∀ x, lo = some (some x) → ∃ v, lv = some v ∧ V G w x v) (hlN : lo = none → lv = none) (hhV : ∀ x, hi = some (some x) → ∃ v, hv = some v ∧ V G w x v) (hhN : hi = none → hv = none) :
    (Instr.sliceBounds isSl len cap lv hv none).run P w = .ok (l.toNat, h.toNat, cap) w := by
  rcases bnd_inv hl with ⟨e1, rfl⟩ | ⟨k1, e1⟩ <;> rcases bnd_inv hh with ⟨e2, rfl⟩ | ⟨k2, e2⟩
  · rw [hlN e1, hhN e2]; rfl
  · obtain ⟨v, rfl, hv⟩ := hhV _ e2
    rw [hlN e1]
    unfold Instr.sliceBounds
    simp only [Sem.run_bind, Sem.run_pure, Result.andThen, sb_run hv _ (show 0 ≤ h by omega) (show h ≤ (cap : Int) by omega)]
    rfl
  · obtain ⟨v, rfl, hv⟩ := hlV _ e1
    rw [hhN e2]
    unfold Instr.sliceBounds
    simp only [Sem.run_bind, Sem.run_pure, Result.andThen, sb_run hv _ h0 h1]
    rfl
  · obtain ⟨v, rfl, hv⟩ := hhV _ e2
    obtain ⟨u, rfl, hu⟩ := hlV _ e1
    unfold Instr.sliceBounds
    simp only [Sem.run_bind, Sem.run_pure, Result.andThen, sb_run hv _ (show 0 ≤ h by omega) (show h ≤ (cap : Int) by omega), sb_run hu _ h0 (show l ≤ (h.toNat : Int) by omega)]
theorem cutAt_ok {t : TypeId} {x z : AV} {u : Value} {lo hi : Option (Option AV)} {lv hv : Option Value} (hx : V G w x u) (h : cutAt P t x lo hi = some z)
    (hlV : ∀ x, lo = some (some x) → ∃ v, lv = some v ∧ V G w x v) (hlN : lo = none → lv = none) (hhV : ∀ x, hi = some (some x) → ∃ v, hv = some v ∧ V G w x v) (hhN : hi = none → hv = none) :
    ∃ r, (Instr.sliceAt t u lv hv none).run P w = .ok r w ∧ V G w z r := by
  unfold cutAt at h
  split at h
  · rename_i b
    split at h
    case h_2 => cases h
    rename_i l h' el eh
    split at h
    case isFalse => cases h
    rename_i hc
    obtain ⟨ht, h0, h1, h2⟩ := hc
    cases h
    cases hx
    refine ⟨_, ?_, .str _⟩
    unfold Instr.sliceAt
    simp only [Sem.run_bind, run_underlyingT (strT_ok ht), Result.andThen, Instr.slice]
    simp only [Option.isSome_none, Bool.false_eq_true, if_false, Sem.run_bind, Sem.run_pure, Result.andThen, cut_bounds (isSl := false) el eh h0 h1 h2 (Nat.le_refl _) hlV hlN hhV hhN]
  · rename_i tk xs
    split at h
    case h_2 => cases h
    rename_i e l h' he el eh
    cases hs : szOf P e with
    | none => rw [hs] at h; cases h
    | some sz =>
      rw [hs] at h
      dsimp only at h
      split at h
      case isFalse => cases h
      rename_i hb
      obtain ⟨h0, h1, h2⟩ := hb
      split at h
      case isFalse => cases h
      rename_i hall
      cases h
      obtain ⟨A, c, rfl, hc1, hc2⟩ := hx.sl_sizes
      refine ⟨.slice (if c = l.toNat then A else A.map (·.add (l.toNat * sz))) (h'.toNat - l.toNat) (c - l.toNat), ?_, ?_⟩
      · unfold Instr.sliceAt
        simp only [Sem.run_bind, run_underlyingT (elT_ok he), Result.andThen, Instr.slice]
        simp only [Sem.run_bind, Sem.run_pure, Result.andThen, cut_bounds (isSl := true) el eh h0 h1 h2 hc1 hlV hlN hhV hhN, run_szOf hs]
      · have hlen : ((xs.take h'.toNat).drop l.toNat).length = h'.toNat - l.toNat := by simp; omega
        rcases Nat.lt_or_ge l.toNat h'.toNat with hlt | hge
        · cases hx with
          | sl0 _ => simp at h2; omega
          | @sl _ _ b o m c sz' f hm0 hm hc hcm hs0 hel htk hcell hV =>
            have hne : ¬ c = l.toNat := by omega
            have hg0 : xs[0]? = some (xs.getD 0 []) := by rw [List.getD_eq_getElem?_getD, List.getElem?_eq_getElem hm0]; rfl
            have hsz : sz' = sz := by
              have h1 := hel _ (List.mem_of_getElem? hg0)
              have h2 := hall _ (List.mem_of_getElem? hg0)
              omega
            subst hsz
            rw [if_neg hne]
            simp only [Option.map_some, Addr.add_lit]
            have hin : ∀ (j : Nat) (el : List AV), ((xs.take h'.toNat).drop l.toNat)[j]? = some el → xs[l.toNat + j]? = some el := by
              intro j el hj
              rw [List.getElem?_drop, List.getElem?_take] at hj
              split at hj
              · exact hj
              · cases hj
            refine .sl (fun j i => f (l.toNat + j) i) (by omega) hlen.symm (by omega) (by omega) hs0 (fun el hm => hel el (List.mem_of_mem_take (List.mem_of_mem_drop hm))) (.inl rfl) (fun j i el x hj hi => ?_) (fun j i el x hj hi => hV _ i el x (hin j el hj) hi)
            obtain ⟨c1, c2, c3⟩ := hcell _ i el x (hin j el hj) hi
            have e : o + l.toNat * sz' + (j * sz' + i) = o + ((l.toNat + j) * sz' + i) := by rw [Nat.add_mul]; omega
            rw [e]
            exact ⟨c1, c2, c3⟩
        · have hnil : (xs.take h'.toNat).drop l.toNat = [] := List.eq_nil_of_length_eq_zero (by rw [hlen]; omega)
          rw [hnil, show h'.toNat - l.toNat = 0 by omega]
          exact .sl0 (.inl rfl)
  · cases h
theorem chunk_get : ∀ (k sz : Nat) (cs : List AV) (j : Nat) (el : List AV), (chunk k sz cs)[j]? = some el → j < k ∧ el = (cs.drop (j * sz)).take sz
  | 0, sz, cs, j, el, h => by simp [chunk] at h
  | k + 1, sz, cs, 0, el, h => by simp [chunk] at h; simp [h]
  | k + 1, sz, cs, j + 1, el, h => by
    have h : (chunk k sz (cs.drop sz))[j]? = some el := by simpa [chunk] using h
    obtain ⟨h1, h2⟩ := chunk_get k sz _ j el h
    refine ⟨by omega, ?_⟩
    rw [h2, List.drop_drop]
    congr 2
    rw [Nat.succ_mul, Nat.add_comm]
theorem chunk_length : ∀ (k sz : Nat) (cs : List AV), (chunk k sz cs).length = k
  | 0, _, _ => rfl
  | k + 1, sz, cs => by simp [chunk, chunk_length k]
theorem cutArr_ok {t : TypeId} {x z : AV} {u : Value} {l h m : Int} (hx : V G w x u) (hc : cutArr P t x l h m = some z) {n : Nat} {e : TypeId} (ha : arT P t = some (n, e)) {lv hv mv : Option Value}
    (hb : (Instr.sliceBounds false n n lv hv mv).run P w = .ok (l.toNat, h.toNat, m.toNat) w) : ∃ r, (Instr.sliceAt t u lv hv mv).run P w = .ok r w ∧ V G w z r := by
  unfold cutArr at hc
  rw [ha] at hc
  dsimp only at hc
  split at hc
  case h_2 => cases hc
  rename_i sz cs hs
  split at hc
  case isFalse => cases hc
  rename_i hq
  obtain ⟨h0, h1, h2, h3, h4, h5, h6⟩ := hq
  cases hc
  cases hx with
  | @cptr _ b o f g1 g2 =>
    refine ⟨.slice (some ⟨b, o + l.toNat * sz, none⟩) (h.toNat - l.toNat) (m.toNat - l.toNat), ?_, ?_⟩
    · unfold Instr.sliceAt
      have hne : ¬ m.toNat = l.toNat := by omega
      simp only [Sem.run_bind, run_underlyingT (arT_ok ha), Result.andThen, Instr.sureAddr, Sem.run_pure, hb, run_szOf hs, hne, if_false, Addr.add_lit]
    · have hlen : (chunk (h - l).toNat sz (cs.drop (l.toNat * sz))).length = h.toNat - l.toNat := by rw [chunk_length]; omega
      have hin : ∀ (j : Nat) (el : List AV), (chunk (h - l).toNat sz (cs.drop (l.toNat * sz)))[j]? = some el → el.length = sz ∧ ∀ (i : Nat) (y : AV), el[i]? = some y → cs[l.toNat * sz + (j * sz + i)]? = some y := by
        intro j el hj
        obtain ⟨k1, rfl⟩ := chunk_get _ _ _ _ _ hj
        have hle : (l.toNat + (j + 1)) * sz ≤ n * sz := Nat.mul_le_mul_right _ (by omega)
        rw [Nat.add_mul, Nat.succ_mul] at hle
        refine ⟨by simp only [List.length_take, List.length_drop]; omega, fun i y hy => ?_⟩
        rw [List.getElem?_take] at hy
        split at hy
        case isFalse => cases hy
        rw [List.getElem?_drop, List.getElem?_drop] at hy
        exact hy
      refine .sl (fun j i => f (l.toNat * sz + (j * sz + i))) (by omega) hlen.symm (by omega) (by omega) h5 (fun el hm => ?_) (.inl rfl) (fun j i el x hj hi => ?_) (fun j i el x hj hi => g2 _ _ ((hin j el hj).2 i x hi))
      · obtain ⟨j, hj, rfl⟩ := List.mem_iff_getElem.1 hm
        exact (hin j _ (List.getElem?_eq_getElem hj)).1
      · obtain ⟨c1, c2, c3⟩ := g1 _ _ ((hin j el hj).2 i x hi)
        rw [Nat.add_assoc]
        exact ⟨c1, c2, c3⟩
theorem cutA_ok {t : TypeId} {x z : AV} {u : Value} {lo hi : Option (Option AV)} {lv hv : Option Value} (hx : V G w x u) (h : cutA P t x lo hi = some z)
    (hlV : ∀ x, lo = some (some x) → ∃ v, lv = some v ∧ V G w x v) (hlN : lo = none → lv = none) (hhV : ∀ x, hi = some (some x) → ∃ v, hv = some v ∧ V G w x v) (hhN : hi = none → hv = none) :
    ∃ r, (Instr.sliceAt t u lv hv none).run P w = .ok r w ∧ V G w z r := by
  unfold cutA at h
  split at h
  · split at h
    case h_2 => cases h
    rename_i cs l h' el eh
    cases ha : arT P t with
    | none => unfold cutArr at h; rw [ha] at h; cases h
    | some q =>
      obtain ⟨n, e⟩ := q
      have hn : arrN P t = n := by unfold arrN; rw [ha]
      rw [hn] at h eh
      have hq := h
      unfold cutArr at hq
      rw [ha] at hq
      dsimp only at hq
      split at hq
      case h_2 => cases hq
      split at hq
      case isFalse => cases hq
      rename_i hq2
      exact cutArr_ok hx h ha (cut_bounds (isSl := false) el eh hq2.1 (by omega) (by omega) (Nat.le_refl _) hlV hlN hhV hhN)
  · exact cutAt_ok hx h hlV hlN hhV hhN
theorem cut3_ok {t : TypeId} {x z : AV} {u : Value} {lo hi mx : Option (Option AV)} {lv hv mv : Option Value} (hx : V G w x u) (h : cut3 P t x lo hi mx = some z)
    (hlV : ∀ x, lo = some (some x) → ∃ v, lv = some v ∧ V G w x v) (hhV : ∀ x, hi = some (some x) → ∃ v, hv = some v ∧ V G w x v) (hmV : ∀ x, mx = some (some x) → ∃ v, mv = some v ∧ V G w x v) :
    ∃ r, (Instr.sliceAt t u lv hv mv).run P w = .ok r w ∧ V G w z r := by
  unfold cut3 at h
  split at h
  case h_2 => cases h
  rename_i k1 l k2 h' k3 m
  obtain ⟨lv, rfl, v1⟩ := hlV _ rfl
  obtain ⟨hv, rfl, v2⟩ := hhV _ rfl
  obtain ⟨mv, rfl, v3⟩ := hmV _ rfl
  cases ha : arT P t with
  | none => unfold cutArr at h; rw [ha] at h; cases h
  | some q =>
    obtain ⟨n, e⟩ := q
    have hq := h
    unfold cutArr at hq
    rw [ha] at hq
    dsimp only at hq
    split at hq
    case h_2 => cases hq
    split at hq
    case isFalse => cases hq
    rename_i hq2
    obtain ⟨h0, h1, h2, h3, _⟩ := hq2
    refine cutArr_ok hx h ha ?_
    unfold Instr.sliceBounds
    simp only [Sem.run_bind, Sem.run_pure, Result.andThen, sb_run v3 _ (show 0 ≤ m by omega) (show m ≤ (n : Int) by omega), sb_run v2 _ (show 0 ≤ h' by omega) (show h' ≤ (m.toNat : Int) by omega), sb_run v1 _ h0 (show l ≤ (h'.toNat : Int) by omega)]
theorem mkIfc_ok {t : TypeId} {x z : AV} {u : Value} (hx : V G w x u) (h : mkIfc P t x = some z) : ∃ r, (Instr.makeInterface t u).run P w = .ok r w ∧ V G w z r := by
  unfold mkIfc at h
  split at h
  case isFalse => cases h
  rename_i hq
  cases h
  unfold concT at hq
  split at hq
  · cases hq
  · cases hq
  · rename_i d hn hd
    refine ⟨.iface t u, ?_, .ifc hx⟩
    unfold Instr.makeInterface
    simp only [Sem.run_bind, run_underlyingT hd, Result.andThen]
    all_goals (cases d <;> first | rfl | exact absurd hd (by intro e; exact hn _ e) | exact absurd rfl (hn _))
theorem conv_ok {src dst : TypeId} {x z : AV} {u : Value} (hx : V G w x u) (h : conv P src dst x = some z) : ∃ r, (convert src dst u).run P w = .ok r w ∧ V G w z r := by
  unfold conv at h
  split at h
  · cases h
  rename_i d hd
  split at h
  · rename_i k k' n hk
    cases h
    cases hx
    refine ⟨_, ?_, .int _ _⟩
    unfold convert
    simp only [Sem.run_bind, run_underlyingT hd, run_underlyingT (intT_ok hk), Result.andThen, Conv.intToInt, Sem.run_pure]
  · split at h
    case isFalse => cases h
    rename_i hs
    cases h
    cases hx
    refine ⟨_, ?_, .str _⟩
    unfold convert
    simp only [Sem.run_bind, run_underlyingT hd, run_underlyingT (strT_ok hs), Result.andThen]
    cases d <;> rfl
  · split at h
    case isFalse => cases h
    rename_i el xs hnone hs
    obtain ⟨hs1, hs2⟩ := hs
    obtain ⟨ns, hn, rfl⟩ := Option.map_eq_some_iff.1 h
    obtain ⟨e, he, hu8⟩ : ∃ e, P.underlying src = some (.slice e) ∧ P.underlying e = some (.int .u8) := by
      unfold elU8 at hs2
      split at hs2
      · rename_i e he
        exact ⟨e, elT_ok he, intT_ok (by simpa using hs2)⟩
      · cases hs2
    have key : ∀ (xs : List (List AV)) (ns : List Int), byt xs = some ns → ns.length = xs.length ∧ ∀ (j : Nat) (el : List AV), xs[j]? = some el → ∃ n, ns[j]? = some n ∧ el = [.int .u8 n] := by
      intro xs
      induction xs with
      | nil => intro ns h; cases h; exact ⟨rfl, fun j el h => by simp at h⟩
      | cons x xs ih =>
        intro ns h
        unfold byt at h
        split at h
        · rename_i hq; cases hq
        · rename_i hq
          cases hq
          obtain ⟨ms, hm, rfl⟩ := Option.map_eq_some_iff.1 h
          obtain ⟨k1, k2⟩ := ih ms hm
          refine ⟨by simp [k1], fun j el hj => ?_⟩
          cases j with
          | zero => simp at hj; subst hj; exact ⟨_, rfl, rfl⟩
          | succ j => exact k2 j el (by simpa using hj)
        · cases h
    obtain ⟨hl, hk⟩ := key _ _ hn
    cases hx with
    | @sl _ _ b o m c sz f hm0 hm hc hcm hs0 hel htk hcell hV =>
      have hsz : sz = 1 := by
        obtain ⟨n, _, e⟩ := hk 0 el rfl
        have := hel el (List.mem_cons_self)
        rw [e] at this; simpa using this.symm
      subst hsz
      refine ⟨_, ?_, .str _⟩
      rw [run_convert_bytes_string w src dst e _ _ _ he hu8 (strT_ok hs1)]
      refine run_bytesToString w ⟨b, o, none⟩ m c ns ?_
      have hr := run_loadCells_list (P := P) (w := w) ⟨b, o, none⟩ (ns.map (Value.int .u8)) (fun j v hj => by
        rw [List.getElem?_map] at hj
        obtain ⟨n, hn', rfl⟩ := Option.map_eq_some_iff.1 hj
        have hjl : j < (el :: xs).length := by have := (List.getElem?_eq_some_iff.1 hn').1; omega
        obtain ⟨n', e1, e2⟩ := hk j _ (List.getElem?_eq_getElem hjl)
        rw [hn'] at e1; cases e1
        have hx' : ((el :: xs)[j])[0]? = some (.int .u8 n) := by rw [e2]; rfl
        obtain ⟨c1, c2, c3⟩ := hcell j 0 _ _ (List.getElem?_eq_getElem hjl) hx'
        have hv := hV j 0 _ _ (List.getElem?_eq_getElem hjl) hx'
        rw [hv.int_inv] at c2
        rw [Addr.add_lit]
        simpa using c2)
      rw [List.length_map, hl, ← hm] at hr
      exact hr
  · cases h
theorem lenOf_ok {t : TypeId} {x z : AV} {u : Value} {ts : Array TypeId} (ht : ts[0]? = some t) (ty : TypeId) (hx : V G w x u) (h : lenOf P t x = some z) : ∃ r, (Builtin.len_ ts ty #[u]).run P w = .ok r w ∧ V G w z r := by
  unfold lenOf at h
  split at h
  · split at h
    case isFalse => cases h
    rename_i hs
    cases h
    cases hx
    refine ⟨_, ?_, .int _ _⟩
    unfold Builtin.len_
    simp [ht, Sem.run_bind, run_underlyingT (strT_ok hs), Result.andThen, goInt]
  · split at h
    case h_2 => cases h
    rename_i e he
    cases h
    obtain ⟨A, c, rfl, _, _⟩ := hx.sl_sizes
    refine ⟨_, ?_, .int _ _⟩
    unfold Builtin.len_
    simp [ht, Sem.run_bind, run_underlyingT (elT_ok he), Result.andThen, goInt]
  · split at h
    case h_2 => cases h
    rename_i e he
    cases h
    cases hx with
    | own h0 ha =>
      refine ⟨_, ?_, .int _ _⟩
      unfold Builtin.len_
      simp [ht, Sem.run_bind, run_underlyingT (elT_ok he), Result.andThen, goInt]
  · cases h

theorem run_mapM_list {α β : Type} {P : Program} {w : World} {f : α → Sem β} {g : α → β} : ∀ (l : List α), (∀ x ∈ l, (f x).run P w = .ok (g x) w) → (l.mapM f).run P w = .ok (l.map g) w
  | [], _ => rfl
  | x :: l, h => by
    simp only [List.mapM_cons, Sem.run_bind, h x (List.mem_cons_self), Result.andThen, run_mapM_list l (fun y hy => h y (List.mem_cons_of_mem _ hy)), Sem.run_pure, List.map_cons]
theorem places_run {t : TypeId} {fs : Array Field} (hu : P.underlying t = some (.struct fs)) (ha : isStruct P t = true) :
    ∃ places : Array (Nat × Nat), (fs.mapM fun f => do pure (f.offset, ← sizeOf f.type) : Sem (Array (Nat × Nat))).run P w = .ok places w ∧ ∀ i : Nat, places[i]? = fldPl P t i := by
  unfold isStruct at ha
  rw [hu] at ha
  simp only [List.all_eq_true] at ha
  refine ⟨(fs.toList.map fun f => (f.offset, (szOf P f.type).getD 0)).toArray, ?_, fun i => ?_⟩
  · rw [Array.mapM_eq_mapM_toList, Sem.run_map]
    rw [run_mapM_list (g := fun f : Field => (f.offset, (szOf P f.type).getD 0)) fs.toList (fun f hf => by
      obtain ⟨n, hn⟩ := Option.isSome_iff_exists.1 (ha f hf)
      simp only [Sem.run_bind, run_szOf hn, Result.andThen, Sem.run_pure, hn, Option.getD_some])]
    rfl
  · unfold fldPl fldT
    rw [hu]
    simp only [List.getElem?_toArray, List.getElem?_map, Array.getElem?_toList]
    cases hf : fs[i]? with
    | none => rfl
    | some f =>
      have hm : f ∈ fs.toList := by rw [← Array.getElem?_toList] at hf; exact List.mem_of_getElem? hf
      obtain ⟨n, hn⟩ := Option.isSome_iff_exists.1 (ha f hm)
      simp [hn]
theorem evP_ok (h : Rel C E G s a w) {o : Oper} {x : AV} (hx : evP C.P s o.op = some x) : ∃ v, (execOp a.eval o).run C.P w = .ok (.value v) w ∧ V G w x v := by
  have lift : ∀ (m : Sem Value), (∃ r, m.run C.P w = .ok r w ∧ V G w x r) → ∃ v, (do pure (.value (← m)) : Sem Next).run C.P w = .ok (.value v) w ∧ V G w x v := by
    rintro m ⟨r, h1, h2⟩
    exact ⟨r, by simp only [Sem.run_bind, h1, Result.andThen, Sem.run_pure], h2⟩
  have B := @Option.bind_eq_some_iff
  obtain ⟨dst, op, ty, pos, after, guard⟩ := o
  cases op with
  | move y => exact ⟨_, rfl, h.eval hx⟩
  | assign y => exact ⟨_, rfl, h.eval hx⟩
  | pick c y z =>
    simp only [evP] at hx
    split at hx
    · rename_i hc
      refine ⟨a.eval y, ?_, h.eval hx⟩
      simp [execOp, (h.eval hc).bool_inv, asBool, Sem.run_bind, Result.andThen]
    · rename_i hc
      refine ⟨a.eval z, ?_, h.eval hx⟩
      simp [execOp, (h.eval hc).bool_inv, asBool, Sem.run_bind, Result.andThen]
    · cases hx
  | binOp op t y z u =>
    obtain ⟨b1, e1, hx⟩ := B.1 hx
    obtain ⟨b2, e2, hx⟩ := B.1 hx
    exact lift _ (binG_ok h.t1 _ _ (h.eval e1) (h.eval e2) hx)
  | unOp op t y =>
    obtain ⟨b1, e1, hx⟩ := B.1 hx
    exact lift _ (un_ok (h.eval e1) hx)
  | extract y i =>
    obtain ⟨vs, e1, hx⟩ := B.1 hx
    obtain ⟨b, e1, e2⟩ := B.1 e1
    have : b = .tup vs := by cases b <;> simp_all [asTup]
    subst this
    obtain ⟨us, hu, hl, hV⟩ := (h.eval e1).tup_inv
    have hlt : i < us.size := by have := (List.getElem?_eq_some_iff.1 hx).1; omega
    refine lift _ ⟨us[i], ?_, hV i x hx _ (Array.getElem?_eq_getElem hlt)⟩
    rw [hu]
    simp [Instr.extract, hlt]
  | build t ps =>
    simp only [evP] at hx
    split at hx
    case isFalse => cases hx
    rename_i hst
    obtain ⟨z, hz, hx⟩ := B.1 hx
    obtain ⟨z', hz, hz'⟩ := B.1 hz
    have : z' = .agg z := by cases z' <;> simp_all [asAggL]
    subst this
    obtain ⟨qs, hq, hx⟩ := B.1 hx
    obtain ⟨r, hb, rfl⟩ := Option.map_eq_some_iff.1 hx
    unfold zeroT at hz
    obtain ⟨zv, hz1, hz2⟩ := B.1 hz
    have hzV : V G w (.agg z) zv := cv_ok h.t1 hz2
    obtain ⟨zs, rfl, hzl⟩ := hzV.agg_inv
    obtain ⟨hq1, hq2⟩ := evalP_ok h hq
    refine lift _ ?_
    obtain ⟨fs, hu⟩ : ∃ fs, C.P.underlying t = some (.struct fs) := by
      have hst' := hst
      unfold isStruct at hst'
      split at hst'
      · exact ⟨_, by assumption⟩
      · cases hst'
    obtain ⟨places, hp1, hp2⟩ := places_run (w := w) hu hst
    have hb' : bld (fun i => places[i]?) z qs = some r := by
      have : (fun i : Nat => places[i]?) = fldPl C.P t := funext hp2
      rw [this]; exact hb
    obtain ⟨arr, ha1, ha2⟩ := bld_ok (G := G) (w := w) (place := fun i => places[i]?) qs (ps.map fun (i, x) => (i, a.eval x)).toList z zs r (by simpa using hq1) (fun k i j x v e1 e2 => by
      simp only [Array.toList_map, List.getElem?_map] at e2
      obtain ⟨⟨j', y⟩, g1, g2⟩ := Option.map_eq_some_iff.1 e2
      cases g2
      exact hq2 k i j' x y e1 g1) hzl hb'
    refine ⟨.agg arr, ?_, ha2.agg⟩
    unfold Instr.build
    simp only [Sem.run_bind, run_zeroT hz1, Result.andThen, run_underlyingT hu, hp1]
    have ha1' : Instr.fill (fun x => places[x]?) (Value.agg zs).cells (Array.map (fun x => (x.fst, a.eval x.snd)) ps).toList = some arr := ha1
    rw [ha1']
    rfl
  | field t y i =>
    obtain ⟨cs, e1, hx⟩ := B.1 hx
    obtain ⟨b, e1, e2⟩ := B.1 e1
    have : b = .agg cs := by cases b <;> simp_all [asAggL]
    subst this
    exact lift _ (fldAt_ok (h.eval e1) hx)
  | fieldAddr t y i =>
    obtain ⟨b1, e1, hx⟩ := B.1 hx
    exact lift _ (fldAddr_ok (h.eval e1) hx)
  | indexAddr t y i =>
    obtain ⟨b1, e1, hx⟩ := B.1 hx
    obtain ⟨b2, e2, hx⟩ := B.1 hx
    exact lift _ (idxAddr_ok (h.eval e1) (h.eval e2) hx)
  | index t y i =>
    obtain ⟨b1, e1, hx⟩ := B.1 hx
    obtain ⟨b2, e2, hx⟩ := B.1 hx
    exact lift _ (idx_ok (h.eval e1) (h.eval e2) hx)
  | slice t y lo hi mx =>
    cases mx with
    | some q3 =>
      obtain ⟨b1, e1, hx⟩ := B.1 hx
      refine lift _ (cut3_ok (lv := lo.map a.eval) (hv := hi.map a.eval) (mv := some (a.eval q3)) (h.eval e1) hx ?_ ?_ ?_)
      · intro z hz
        cases lo with
        | none => cases hz
        | some q => simp only [evalH, Option.some.injEq] at hz; exact ⟨_, rfl, h.eval hz⟩
      · intro z hz
        cases hi with
        | none => cases hz
        | some q => simp only [evalH, Option.some.injEq] at hz; exact ⟨_, rfl, h.eval hz⟩
      · intro z hz
        simp only [evalH, Option.some.injEq] at hz; exact ⟨_, rfl, h.eval hz⟩
    | none =>
      obtain ⟨b1, e1, hx⟩ := B.1 hx
      refine lift _ (cutA_ok (lv := lo.map a.eval) (hv := hi.map a.eval) (h.eval e1) hx ?_ ?_ ?_ ?_)
      · intro z hz
        cases lo with
        | none => cases hz
        | some q => simp only [evalH, Option.some.injEq] at hz; exact ⟨_, rfl, h.eval hz⟩
      · intro hz; cases lo with
        | none => rfl
        | some q => cases hz
      · intro z hz
        cases hi with
        | none => cases hz
        | some q => simp only [evalH, Option.some.injEq] at hz; exact ⟨_, rfl, h.eval hz⟩
      · intro hz; cases hi with
        | none => rfl
        | some q => cases hz
  | convert src dst y =>
    obtain ⟨b1, e1, hx⟩ := B.1 hx
    exact lift _ (conv_ok (h.eval e1) hx)
  | makeInterface t y =>
    obtain ⟨b1, e1, hx⟩ := B.1 hx
    exact lift _ (mkIfc_ok (h.eval e1) hx)
  | nilCheck y =>
    obtain ⟨b1, e1, hx⟩ := B.1 hx
    have hV := h.eval e1
    generalize hv : a.eval y = v at hV
    cases hV with
    | ptr hb hk => cases hx; exact ⟨_, by simp only [execOp, hv]; rfl, .ptr hb hk⟩
    | cptr f h1 h2 => cases hx; exact ⟨_, by simp only [execOp, hv]; rfl, .cptr f h1 h2⟩
    | _ => cases hx
  | makeFunc f fs cs =>
    cases f with
    | func g =>
      obtain ⟨l1, e1, hx⟩ := B.1 hx
      obtain ⟨l2, e2, hx⟩ := B.1 hx
      cases hx
      obtain ⟨k1, k2⟩ := evalL_ok h e1
      obtain ⟨k3, k4⟩ := evalL_ok h e2
      refine ⟨.func (.func g) (fs.map a.eval) (cs.map a.eval), by simp only [execOp]; rfl, .fn (by simpa using k1) (by simpa using k3) (fun i c hc v hv => ?_) (fun i c hc v hv => ?_)⟩
      · rw [Array.getElem?_map] at hv
        obtain ⟨y, hy, rfl⟩ := Option.map_eq_some_iff.1 hv
        exact k2 i c y hc (by simpa using hy)
      · rw [Array.getElem?_map] at hv
        obtain ⟨y, hy, rfl⟩ := Option.map_eq_some_iff.1 hv
        exact k4 i c y hc (by simpa using hy)
    | _ => cases hx
  | call c =>
    obtain ⟨callee, args, ts⟩ := c
    cases callee with
    | builtin b =>
      have two : ∀ y z, evalL s args.toList = some [y, z] → ∃ q q', args = #[q, q'] ∧ V G w y (a.eval q) ∧ V G w z (a.eval q') := by
        intro y z e1
        obtain ⟨k1, k2⟩ := evalL_ok h e1
        obtain ⟨q, q', hq⟩ : ∃ q q', args.toList = [q, q'] := by
          match hl : args.toList, k1 with
          | [q, q'], _ => exact ⟨q, q', rfl⟩
        have : args = #[q, q'] := by rw [← Array.toArray_toList (xs := args), hq]
        subst this
        exact ⟨q, q', rfl, k2 0 y q rfl rfl, k2 1 z q' rfl rfl⟩
      cases b with
      | len =>
        simp only [evP] at hx
        split at hx
        case h_2 => cases hx
        rename_i y e1
        obtain ⟨t, e2, hx⟩ := B.1 hx
        obtain ⟨k1, k2⟩ := evalL_ok h e1
        obtain ⟨q, hq⟩ : ∃ q, args.toList = [q] := by
          match hl : args.toList, k1 with
          | [q], _ => exact ⟨q, rfl⟩
        have : args = #[q] := by rw [← Array.toArray_toList (xs := args), hq]
        subst this
        have hV := k2 0 y q rfl rfl
        obtain ⟨r, h1, h2⟩ := lenOf_ok (P := C.P) e2 ty hV hx
        refine ⟨r, ?_, h2⟩
        simp only [execOp, resolve, Sem.run_bind, Sem.run_pure, Result.andThen, invoke, builtin, List.map_toArray, List.map_cons, List.map_nil, h1]
      | min =>
        simp only [evP] at hx
        split at hx
        case h_2 => cases hx
        rename_i y z e1
        obtain ⟨q, q', rfl, hV1, hV2⟩ := two y z e1
        unfold mn2 at hx
        split at hx
        case h_2 => cases hx
        cases hx
        have e3 := hV1.int_inv
        have e4 := hV2.int_inv
        refine ⟨_, ?_, .int _ _⟩
        simp [execOp, resolve, Sem.run_bind, Result.andThen, invoke, builtin, Builtin.min_, Builtin.min2, e3, e4]
      | max =>
        simp only [evP] at hx
        split at hx
        case h_2 => cases hx
        rename_i y z e1
        obtain ⟨q, q', rfl, hV1, hV2⟩ := two y z e1
        unfold mx2 at hx
        split at hx
        case h_2 => cases hx
        cases hx
        have e3 := hV1.int_inv
        have e4 := hV2.int_inv
        refine ⟨_, ?_, .int _ _⟩
        simp [execOp, resolve, Sem.run_bind, Result.andThen, invoke, builtin, Builtin.max_, Builtin.max2, e3, e4]
      | _ => cases hx
    | _ => cases hx
  | _ => cases hx
end
end Go.Proofs.AL
