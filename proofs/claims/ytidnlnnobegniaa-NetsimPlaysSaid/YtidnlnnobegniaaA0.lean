import Derived.Orders
import Derived.Below
import Derived.Laws.Cells
import Derived.Laws.CopyRow
import Derived.Laws.AppendOwn
set_option linter.unusedVariables false
set_option linter.unusedSimpArgs false
namespace Go.AM

/-! ### 0. Things that own blocks -/
def blk : Value → Option Nat
  | .pointer (some a) => some a.block
  | .slice (some a) _ _ => some a.block
  | _ => none

theorem lt_of_heap {w : World} {b : Nat} {o : Obj} (h : w.heap[b]? = some o) : b < w.heap.size := by
  rcases Nat.lt_or_ge b w.heap.size with h1 | h1
  · exact h1
  · simp [Array.getElem?_eq_none h1] at h

theorem ownBlock_blk {v : Value} {b : Nat} (h : v.ownBlock = some b) : blk v = some b := by
  cases v <;> simp_all [Value.ownBlock, blk]
  rename_i a n c
  cases a <;> simp_all [Value.ownBlock, blk]

theorem own_block_of {w : World} {base : Nat} {e : TypeId} {size n : Nat} {v : Value} {xs : List Value} (h : w.ownsRow base e size v n xs) {b : Nat} (hb : blk v = some b) : v.ownBlock = some b := by
  rcases h.2 with ⟨rfl, _⟩ | ⟨g, cap, cur, rfl, _⟩
  · simp [blk] at hb
  · simpa [blk, Value.ownBlock] using hb

theorem own_same {w w' : World} {base : Nat} {e : TypeId} {size n : Nat} {v : Value} {xs : List Value} (h : w.ownsRow base e size v n xs) (hb : ∀ b, blk v = some b → w'.heap[b]? = w.heap[b]?) : w'.ownsRow base e size v n xs := by
  refine ⟨h.1, h.2.imp id ?_⟩
  rintro ⟨g, cap, cur, rfl, h1, h2, h3⟩
  exact ⟨g, cap, cur, rfl, h1, by rw [hb g rfl]; exact h2, h3⟩

theorem own_slice {w : World} {base : Nat} {e : TypeId} {size n : Nat} {v : Value} {xs : List Value} (h : w.ownsRow base e size v n xs) : ∃ A c, v = .slice A n c := by
  rcases h.2 with ⟨rfl, rfl⟩ | ⟨g, cap, cur, rfl, _⟩
  · exact ⟨none, 0, rfl⟩
  · exact ⟨_, cap, rfl⟩

/-- A row of bytes. -/
def BytesAt (w : World) (eb : TypeId) (v : Value) (bs : List Int) : Prop := w.ownsRow 0 eb 1 v bs.length (bs.map (Value.int .u8))

/-- A row of rows of bytes; one of them may lie elsewhere. -/
structure NestU (w : World) (e eb : TypeId) (ms : List (List Int)) (h : Option Nat) (v : Value) (Y : Nat → Prop) (vs us : List Value) : Prop where
  row : w.ownsRow 0 e 1 v ms.length us
  rowB : ∀ b, blk v = some b → Y b
  own : ∀ (i : Nat) m u, ms[i]? = some m → us[i]? = some u → h ≠ some i → BytesAt w eb u m
  ownB : ∀ (i : Nat) u b, us[i]? = some u → h ≠ some i → blk u = some b → Y b ∧ blk v ≠ some b
  hole : ∀ i, h = some i → i < ms.length ∧ ∃ u, us[i]? = some u ∧ vs = [u] ∧ ∃ A n c, u = .slice A n c
  apart : ∀ (i j : Nat) u u' b, us[i]? = some u → us[j]? = some u' → h ≠ some i → h ≠ some j → blk u = some b → blk u' = some b → i = j
def NestAt (w : World) (e eb : TypeId) (ms : List (List Int)) (h : Option Nat) (v : Value) (Y : Nat → Prop) (vs : List Value) : Prop := ∃ us, NestU w e eb ms h v Y vs us

theorem NestU.len {w : World} {e eb : TypeId} {ms : List (List Int)} {h : Option Nat} {v : Value} {Y : Nat → Prop} {vs us : List Value} (hn : NestU w e eb ms h v Y vs us) : us.length = ms.length := by
  have := hn.row.1; simpa using this

theorem NestAt.same {w w' : World} {e eb : TypeId} {ms : List (List Int)} {h : Option Nat} {v : Value} {Y : Nat → Prop} {vs : List Value} (hn : NestAt w e eb ms h v Y vs) (hb : ∀ b, Y b → w'.heap[b]? = w.heap[b]?) : NestAt w' e eb ms h v Y vs := by
  obtain ⟨us, hn⟩ := hn
  exact ⟨us, own_same hn.row fun b h1 => hb b (hn.rowB b h1), hn.rowB, fun i m u h1 h2 h3 => own_same (hn.own i m u h1 h2 h3) fun b h4 => hb b (hn.ownB i u b h2 h3 h4).1, hn.ownB, hn.hole, hn.apart⟩
theorem NestAt.slice {w : World} {e eb : TypeId} {ms : List (List Int)} {h : Option Nat} {v : Value} {Y : Nat → Prop} {vs : List Value} (hn : NestAt w e eb ms h v Y vs) : ∃ A c, v = .slice A ms.length c := own_slice hn.choose_spec.row

/-! #### maps by pairs of numbers -/
def pairV (a b : Int) : Value := .agg #[.int .i64 a, .int .i64 b]
theorem pairV_inj {a b c d : Int} : pairV a b = pairV c d ↔ a = c ∧ b = d := by simp [pairV]

abbrev MapM := Int → Int → Option (Value × Nat)
structure MapE (es : List MapEntry) (clock : Nat) (M : MapM) : Prop where
  key : ∀ en, en ∈ es → ∃ a b, en.key = pairV a b ∧ M a b = some (en.val, en.born)
  all : ∀ a b x, M a b = some x → ∃ en, en ∈ es ∧ en.key = pairV a b
  nodup : es.Pairwise fun x y => x.key ≠ y.key
  born : ∀ en, en ∈ es → en.born < clock
  bnodup : es.Pairwise fun x y => x.born ≠ y.born
def MapIs (w : World) (r : Nat) (M : MapM) : Prop := ∃ es clock, w.heap[r]? = some (.map es clock) ∧ MapE es.toList clock M
theorem MapIs.same {w w' : World} {r : Nat} {M : MapM} (h : MapIs w r M) (hb : w'.heap[r]? = w.heap[r]?) : MapIs w' r M := by
  obtain ⟨es, clock, h1, h2⟩ := h
  exact ⟨es, clock, by rw [hb]; exact h1, h2⟩

inductive HK where
  | own | out | stamped
  | msg (i : Nat)
inductive QHole where
  | none
  | entry (a b : Int)
  | stamp (a b : Int)
  | msg (a b : Int) (i : Nat)
  deriving Inhabited
def QHole.at : QHole → Int → Int → HK
  | .none, _, _ => .own
  | .entry a0 b0, a, b => if a = a0 ∧ b = b0 then .out else .own
  | .stamp a0 b0, a, b => if a = a0 ∧ b = b0 then .stamped else .own
  | .msg a0 b0 i, a, b => if a = a0 ∧ b = b0 then .msg i else .own

abbrev QF := Int → Int → List (List Int)
def valOf (M : MapM) (a b : Int) : Value := match M a b with
  | some x => x.1
  | none => .slice none 0 0
def SlotAt (w : World) (e eb : TypeId) (ms : List (List Int)) (M : MapM) (a b : Int) (Y : Nat → Prop) (vs : List Value) : HK → Prop
  | .own => NestAt w e eb ms none (valOf M a b) Y []
  | .msg i => NestAt w e eb ms (some i) (valOf M a b) Y vs
  | .out => vs = [valOf M a b] ∧ ∃ A n c, valOf M a b = .slice A n c
  | .stamped => ∃ n, M a b = some (valOf M a b, n) ∧ vs = [valOf M a b, .int .i64 n] ∧ ∃ A m c, valOf M a b = .slice A m c
theorem SlotAt.same {w w' : World} {e eb : TypeId} {ms : List (List Int)} {M : MapM} {a b : Int} {Y : Nat → Prop} {vs : List Value} {k : HK} (h : SlotAt w e eb ms M a b Y vs k) (hb : ∀ n, Y n → w'.heap[n]? = w.heap[n]?) : SlotAt w' e eb ms M a b Y vs k := by
  cases k with
  | own => exact NestAt.same h hb
  | msg i => exact NestAt.same h hb
  | out => exact h
  | stamped => exact h

structure QAt (w : World) (e eb : TypeId) (Q : QF) (h : QHole) (v : Value) (X : Nat → Prop) (vs : List Value) (r : Nat) (M : MapM) (Y : Int → Int → Nat → Prop) : Prop where
  isM : v = .map (some r)
  inX : X r
  map : MapIs w r M
  sub : ∀ a b n, Y a b n → X n ∧ n ≠ r
  apart : ∀ a b a' b' n, Y a b n → Y a' b' n → a = a' ∧ b = b'
  slot : ∀ a b, SlotAt w e eb (Q a b) M a b (Y a b) vs (h.at a b)

abbrev SF := Int → Int → Int

inductive Tag where
  | one (e : TypeId)
  | nest (e eb : TypeId) (ms : List (List Int)) (h : Option Nat)
  | qs (e eb : TypeId) (Q : QF) (h : QHole)
  | cuts (S : SF)
  | mem (e : TypeId) (n : Nat) (f : Nat → Value) (h : Option Nat)
  | qsB (e eb : TypeId) (Q : QF) (B : Int → Int → Option Nat) (clk : Nat)
  | iter (clk : Nat) (seen : List Nat) (cur : Int × Int)
  deriving Inhabited

/-- A block of cells of one type's values; one cell may hold a slice that lies elsewhere. -/
structure BlkAt (w : World) (e : TypeId) (n : Nat) (f : Nat → Value) (h : Option Nat) (b : Nat) (vs : List Value) (c : Array Value) : Prop where
  heap : w.heap[b]? = some (.cells c e (0, 0))
  size : c.size = n
  cell : ∀ i, i < n → h ≠ some i → c[i]? = some (f i) ∧ (f i).oneCell' = true
  hole : ∀ i, h = some i → i < n ∧ ∃ u, c[i]? = some u ∧ vs = [u] ∧ ∃ A m k, u = .slice A m k

def Tag.rep : Tag → World → Value → (Nat → Prop) → List Value → Prop
  | .one e, w, v, X, vs => ∃ u, vs = [u] ∧ w.ownsRow 0 e 1 v 1 [u] ∧ ∃ A n c, u = .slice A n c
  | .nest e eb ms h, w, v, X, vs => ∃ Y, NestAt w e eb ms h v Y vs ∧ ∀ b, Y b → blk v = some b ∨ X b
  | .qs e eb Q h, w, v, X, vs => ∃ r M Y, QAt w e eb Q h v X vs r M Y
  | .cuts S, w, v, X, vs => ∃ r M, v = .map (some r) ∧ X r ∧ MapIs w r M ∧ ∀ a b, (M a b = none ∧ S a b = 0) ∨ ∃ n, M a b = some (.int .i64 (S a b), n)
  | .mem e n f h, w, v, X, vs => ∃ b c, v = .slice (some ⟨b, 0, none⟩) 0 0 ∧ BlkAt w e n f h b vs c
  | .qsB e eb Q B clk, w, v, X, vs => ∃ r M Y es, QAt w e eb Q .none v X vs r M Y ∧ w.heap[r]? = some (.map es clk) ∧ MapE es.toList clk M ∧ ∀ a b, (M a b).map (·.2) = B a b
  | .iter clk seen _, w, v, X, vs => ∃ b r, v = .slice (some ⟨b, 0, none⟩) 0 0 ∧ vs = [.map (some r)] ∧ w.heap[b]? = some (.mapIter (some r) clk seen.toArray clk)

theorem Tag.ext {g : Tag} {w w' : World} {v : Value} {X : Nat → Prop} {vs : List Value} (hb : ∀ b, (blk v = some b ∨ X b) → w'.heap[b]? = w.heap[b]?) (h : g.rep w v X vs) : g.rep w' v X vs := by
  cases g with
  | one e =>
    obtain ⟨u, h1, h2, h3⟩ := h
    exact ⟨u, h1, own_same h2 fun b h4 => hb b (.inl h4), h3⟩
  | nest e eb ms hh =>
    obtain ⟨Y, h1, h2⟩ := h
    exact ⟨Y, h1.same fun b h3 => hb b (h2 b h3), h2⟩
  | qs e eb Q hh =>
    obtain ⟨r, M, Y, h⟩ := h
    exact ⟨r, M, Y, h.isM, h.inX, h.map.same (hb r (.inr h.inX)), h.sub, h.apart, fun a b => (h.slot a b).same fun n hn => hb n (.inr (h.sub a b n hn).1)⟩
  | cuts S =>
    obtain ⟨r, M, h1, h2, h3, h4⟩ := h
    exact ⟨r, M, h1, h2, h3.same (hb r (.inr h2)), h4⟩
  | mem e n f hh =>
    obtain ⟨b, c, h1, h2⟩ := h
    exact ⟨b, c, h1, by rw [hb b (.inl (by rw [h1]; rfl))]; exact h2.heap, h2.size, h2.cell, h2.hole⟩
  | qsB e eb Q B clk =>
    obtain ⟨r, M, Y, es, h, h1, h2, h3⟩ := h
    exact ⟨r, M, Y, es, ⟨h.isM, h.inX, h.map.same (hb r (.inr h.inX)), h.sub, h.apart, fun a b => (h.slot a b).same fun n hn => hb n (.inr (h.sub a b n hn).1)⟩, by rw [hb r (.inr h.inX)]; exact h1, h2, h3⟩
  | iter clk seen cur =>
    obtain ⟨b, r, h1, h2, h3⟩ := h
    exact ⟨b, r, h1, h2, by rw [hb b (.inl (by rw [h1]; rfl))]; exact h3⟩

theorem Tag.nptr {g : Tag} {w : World} {v : Value} {X : Nat → Prop} {vs : List Value} (h : g.rep w v X vs) (a : Option Addr) : v ≠ .pointer a := by
  cases g with
  | one e =>
    obtain ⟨u, _, h2, _⟩ := h
    obtain ⟨A, c, rfl⟩ := own_slice h2
    simp
  | nest e eb ms hh =>
    obtain ⟨Y, h1, _⟩ := h
    obtain ⟨A, c, rfl⟩ := h1.slice
    simp
  | qs e eb Q hh =>
    obtain ⟨r, M, Y, h⟩ := h
    rw [h.isM]; simp
  | cuts S =>
    obtain ⟨r, M, rfl, _⟩ := h
    simp
  | mem e n f hh =>
    obtain ⟨b, c, rfl, _⟩ := h
    simp
  | qsB e eb Q B clk =>
    obtain ⟨r, M, Y, es, h, _⟩ := h
    rw [h.isM]; simp
  | iter clk seen cur =>
    obtain ⟨b, r, rfl, _⟩ := h
    simp
end Go.AM
