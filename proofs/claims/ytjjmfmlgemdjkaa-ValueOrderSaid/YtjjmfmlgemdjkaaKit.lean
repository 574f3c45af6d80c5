/- Small lemmas on worlds for the walks: what a call leaves, owned rows of bytes. -/
import Derived.Test.YtjjmfmlgemdjkaaProg
import Derived.WalkKit
import Derived.KernelRfl
import Derived.Lib.Hide
import Derived.BigRegion
import Derived.Laws.BytesArg
import Derived.Lib.QuietBelow
namespace Go.Proofs.Ytjjmfmlgemdjkaa
open Go.RowKit

theorem heap_alloc_last (w : World) (o : Obj) (k : Nat) (h : k = w.heap.size) : (w.alloc o).heap[k]? = some o := by subst h; exact heap_alloc_new w o
theorem cell_alloc (w : World) (C : Array Value) (t : TypeId) (j : Nat) : (w.alloc (.cells C t)).cell? ⟨w.heap.size, j, none⟩ = C[j]? := World.cell?_alloc_mark w C t (0, 0) j

/-- Behind a store into a block of cells that are not frozen. -/
theorem block_setCell {w : World} {B : Nat} {t : TypeId} {cs : Array Value} (h : w.heap[B]? = some (.cells cs t (0, 0))) (i : Nat) (u : Value) : (w.setCell ⟨B, i, none⟩ u).heap[B]? = some (.cells (cs.setIfInBounds i u) t (0, 0)) := by
  obtain ⟨hlt, hh⟩ := Array.getElem?_eq_some_iff.1 h
  simp only [World.setCell, Array.getElem?_modify, if_true, h, Option.map_some]
  rfl
theorem free_of {w : World} {B : Nat} {t : TypeId} {cs : Array Value} (h : w.heap[B]? = some (.cells cs t (0, 0))) (k : Nat) : w.frozen? ⟨B, k, none⟩ = false := by simp [World.frozen?, h]
theorem cell_of {w : World} {B : Nat} {t : TypeId} {cs : Array Value} (h : w.heap[B]? = some (.cells cs t (0, 0))) (k : Nat) : w.cell? ⟨B, k, none⟩ = cs[k]? := cell_of_row w B k _ _ _ h

/-- From what a call has left below the whole heap as it was. -/
theorem below_at {B : Nat} {w w1 w2 : World} (h : Below B w w1) (hB : B ≤ w1.heap.size) (k : Below w1.heap.size w1 w2) : Below B w w2 := h.trans (k.mono hB)
theorem below_after {w w1 w2 : World} (h : Below w.heap.size w w1) (k : Below w1.heap.size w1 w2) : Below w.heap.size w w2 := h.trans (k.mono h.size)
theorem block_lt {w : World} {B : Nat} {o : Obj} (h : w.heap[B]? = some o) : B < w.heap.size := (Array.getElem?_eq_some_iff.1 h).1
theorem block_below {w w1 : World} {B : Nat} {o : Obj} (h : w.heap[B]? = some o) (hb : Below w.heap.size w w1) : w1.heap[B]? = some o := (hb.block B (block_lt h)).trans h
theorem own_below {w w1 : World} {base : Nat} {e : TypeId} {size : Nat} {v : Value} {n : Nat} {xs : List Value} (h : w.ownsRow base e size v n xs) (hb : Below w.heap.size w w1) : w1.ownsRow base e size v n xs := by
  obtain ⟨h1, h2⟩ := h
  refine ⟨h1, ?_⟩
  rcases h2 with h2 | ⟨g, cap, cur, hv, hg, hh, r⟩
  · exact .inl h2
  · exact .inr ⟨g, cap, cur, hv, hg, (hb.block g (block_lt hh)).trans hh, r⟩

/-- Behind an append to an owned row: what lies below the row's base is as it was. -/
theorem below_append {C base : Nat} {wr w1 w2 : World} {e : TypeId} {size n : Nat} {v : Value} {xs : List Value} {o : Obj} (hC : C ≤ wr.heap.size) (hb : Below wr.heap.size wr w1) (hg : (w1.alloc o).grownBy w2 v.ownBlock)
    (hown : wr.ownsRow base e size v n xs) (hCb : C ≤ base) : Below C wr w2 :=
  (((hb.mono hC).alloc (Nat.le_trans hC hb.size) o).grown hg (by simp; have := hb.size; omega) fun k e => Nat.le_trans hCb (hown.lt k e).1)
theorem cell_one (w : World) (v : Value) (t : TypeId) : ∀ (j : Nat) (u : Value), [v][j]? = some u → (w.alloc (.cells #[v] t)).cell? ((⟨w.heap.size, 0, none⟩ : Addr).add j) = some u := by
  intro j u hj
  match j, hj with
  | 0, hj => simp at hj; subst hj; simp [Addr.add]

/-- Bytes as cells. -/
def byteV (b : UInt8) : Value := .int .u8 (b.toNat : Int)
theorem bytes_one (l : List UInt8) : ∀ u ∈ l.map byteV, u.oneCell' = true := by
  intro u hu
  obtain ⟨b, _, rfl⟩ := List.mem_map.1 hu
  rfl

/-- 'string(b)' of bytes that the call owns. -/
theorem own_text {P : Program} {w : World} {base n : Nat} {e' src dst e : TypeId} {v : Value} {l : List UInt8} (hs : P.underlying src = some (.slice e)) (he : P.underlying e = some (.int .u8)) (hd : P.underlying dst = some .string)
    (h : w.ownsRow base e' 1 v n (l.map byteV)) : (convert src dst v).run P w = .ok (.string ⟨l.toArray⟩) w := by
  have hl : l.length = n := by have := h.1; simpa using this
  rcases h.2 with ⟨rfl, rfl⟩ | ⟨g, cap, cur, rfl, _⟩
  · obtain rfl : l = [] := List.eq_nil_of_length_eq_zero hl
    exact run_convert_bytes_nil w src e hs he 0 0 dst hd
  · have hc := h.cells (g := g) rfl
    subst hl
    exact run_convert_bytes_back w src dst e ⟨g, 0, none⟩ cap l hs he hd fun j hj => hc j _ (by simp [byteV, List.getElem?_eq_getElem hj])

theorem results_c {P : Program} {fn : Func} {p : Tmp} {ty : TypeId} (h : fn.results = #[.cell p ty]) (tmps : Array Value) (w : World) (g : Nat) (t : TypeId) (cs : Array Value) (fr : Nat × Nat) (d : TypeDesc)
    (hp : tmps.getD p undef = .pointer (some ⟨g, 0, none⟩)) (hg : w.heap[g]? = some (.cells cs t fr))
    (hu : P.underlying ty = some d) (hd : (match d with | .struct _ | .array _ _ => true | _ => false) = true) (hi : (P.info? ty).map (·.size) = some cs.size) :
    (results fn tmps).run P w = .ok (.agg cs) w := by
  have hp' : tmps[p]?.getD undef = .pointer (some ⟨g, 0, none⟩) := by simpa using hp
  simp [results, h, hp', asAddr, run_loadVar_row w g t ty cs fr d hg hu hd hi]

/-- The bytes' row of the table. -/
theorem infoByte : (Try.prog.info? 5).map (fun i => (i.zero, i.size, i.bytes)) = some (some (.int .u8 0), 1, 1) := by kernel_rfl
end Go.Proofs.Ytjjmfmlgemdjkaa
