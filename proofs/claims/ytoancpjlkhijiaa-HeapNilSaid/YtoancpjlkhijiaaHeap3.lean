/- The heap: what is told of an object. -/
import Derived.Test.YtoancpjlkhijiaaHeap2
namespace Go.Proofs.Ytoancpjlkhijiaa
open Go.RowKit
set_option linter.unusedVariables false
def HeapM.kind (H : HeapM) (v : V) : Int := ((H.of v).map ObjM.kind).getD 0
def HeapM.num (H : HeapM) (v : V) : Int := ((H.of v).map ObjM.num).getD 0
def HeapM.name (H : HeapM) (v : V) : ByteArray := ((H.of v).map ObjM.name).getD ⟨#[]⟩
def HeapM.items (H : HeapM) (v : V) : List V := ((H.of v).map ObjM.items).getD []
def HeapM.pairs (H : HeapM) (v : V) : List (V × V) := ((H.of v).map ObjM.pairs).getD []
theorem cellAlloc {w : World} {p : Addr} {v : Value} (h : w.cell? p = some v) (o : Obj) : (w.alloc o).cell? p = some v := (World.cell?_of_block (w := w) (Below.heap_alloc _ _ _ (World.block_lt_of_cell? w p h))).trans h
theorem cellBelow {w w1 : World} {p : Addr} {v : Value} (h : w.cell? p = some v) (hb : Below w.heap.size w w1) : w1.cell? p = some v := (World.cell?_of_block (w := w) (hb.block p.block (World.block_lt_of_cell? w p h))).trans h
theorem frozenBelow {w w1 : World} {p : Addr} (h : p.block < w.heap.size) (hb : Below w.heap.size w w1) : w1.frozen? p = w.frozen? p := hb.frozen (p := p) h
theorem belowAlloc (w : World) (o : Obj) : Below w.heap.size w (w.alloc o) := (Below.refl _ _).alloc (Nat.le_refl _) o
theorem belowThen {w w1 : World} {o : Obj} (hb : Below (w.alloc o).heap.size (w.alloc o) w1) : Below w.heap.size w w1 := (belowAlloc w o).trans (hb.mono (by simp))
theorem heap_kind (w : World) (h : Nat) (v : V) {H : HeapM} {ε : Int → Int} {F : List Nat} (hh : HeapIs w h H ε F) :
    Calls Try.prog 24 #[.pointer (some ⟨h, 0, none⟩), v.val] w fun e w' => e = .returned (.int .i64 (H.kind v)) ∧ Below w.heap.size w w' := by
  obtain ⟨ma, mr, rows, r, h1, h2, h3, h4, h5, h6, h7, h8⟩ := hh
  have c0 := cellAt h1 0 (v := .map (some ma)) rfl
  rcases ofB_cases h5 v with ⟨g1, g2⟩ | ⟨p, hp, hk, hn, g1, g2⟩
  · rw [HeapM.kind, g2]
    have HO := Lib.hid (fun o => heap_of (w.alloc o) h v (cellAlloc c0 o) (h2.alloc o) none g1)
    clear h1 h2 h3 h4 h5 h6 h7 h8 g1 g2 c0
    simp only [V.val] at HO ⊢
    go_enter Try.func24, Try.ntmps24
    go_wp2_with (go_at_call 45; refine (HO.out _).mono ?_; rintro e w1 ⟨rfl, hb1⟩)
    go_ret
    exact ⟨rfl, belowThen hb1⟩
  · rw [HeapM.kind, g2]
    have HO := Lib.hid (fun o => heap_of (w.alloc o) h v (cellAlloc c0 o) (h2.alloc o) (some p.b) g1)
    obtain ⟨rv, d, G, k1, k2, k3, k4, k5⟩ := h4 p hp
    have k := cellAt k1 0 (v := .int .i64 p.o.kind) rfl
    have HK := Lib.hid (fun o w1 (hb : Below (w.alloc o).heap.size (w.alloc o) w1) => cellBelow k (belowThen hb))
    clear h1 h2 h3 h4 h5 h6 h7 h8 g1 g2 c0 k k1 k2 k3 k4 k5 hk hn hp
    simp only [V.val] at HO ⊢
    go_enter Try.func24, Try.ntmps24
    go_wp2_with (go_at_call 45; refine (HO.out _).mono ?_; rintro e w1 ⟨rfl, hb1⟩; have hk1 := HK.out _ _ hb1)
    go_ret
    exact ⟨rfl, belowThen hb1⟩
end Go.Proofs.Ytoancpjlkhijiaa
