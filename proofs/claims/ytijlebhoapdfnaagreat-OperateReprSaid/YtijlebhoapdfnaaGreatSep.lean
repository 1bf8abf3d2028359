/- What a law holds in memory, thing by thing, each on blocks of its own. -/
import Derived.Test.YtijlebhoapdfnaaGreatLocal
import Derived.Deep.DeepCutAuto
import Derived.Test.YtijlebhoapdfnaaGreatHeapF
/- More of the plain heap's good order; three writers beside what a law laid. -/
namespace Go.Proofs.YtijlebhoapdfnaaGreat
set_option linter.unusedSimpArgs false
open Go.RowKit
set_option linter.unusedVariables false
theorem allVals_cons (q : Int × ObjM) (l : List (Int × ObjM)) : allVals (q :: l) = q.2.vals ++ allVals l := by simp [allVals]
theorem map_set_keys (l : List (Int × ObjM)) (n : Int) (o : ObjM) : (l.map fun p => if p.1 = n then (n, o) else p).map (·.1) = l.map (·.1) := by
 rw [List.map_map]
 refine List.map_congr_left fun p _ => ?_
 by_cases e : p.1 = n
 ·
  simp [e]
 ·
  simp [e]
theorem HeapM.Ok.set {H : HeapM} (h : H.Ok) (n : Int) (o : ObjM) : (H.set n o).Ok := by
 refine ⟨by rw [HeapM.set, map_set_keys]; exact h.asc, fun p hp => ?_, h.last⟩
 have : p.1 ∈ (H.objs.map (·.1)) := by rw [← map_set_keys H.objs n o]; exact List.mem_map.2 ⟨p, hp, rfl⟩
 obtain ⟨q, hq, e⟩ := List.mem_map.1 this
 have := h.pos q hq
 rw [← e]; exact this
theorem weight_map_set : ∀ {l : List (Int × ObjM)}, (l.map (·.1)).Nodup → ∀ {n : Int} {o : ObjM}, getL l n = some o → ∀ o' : ObjM, (allVals (l.map fun p => if p.1 = n then (n, o') else p)).length + o.vals.length = (allVals l).length + o'.vals.length
 | [], _, n, o, g, o' => by simp [getL] at g
 | p :: r, hn, n, o, g, o' => by
  simp only [List.map_cons, List.nodup_cons] at hn
  by_cases e : p.1 = n
  ·
   have e1 : p.2 = o := by simpa [getL, e] using g
   have e2 : r.map (fun p => if p.1 = n then (n, o') else p) = r := by
    conv => rhs; rw [← List.map_id r]
    refine List.map_congr_left fun q hq => ?_
    have : q.1 ≠ n := fun e' => hn.1 (List.mem_map.2 ⟨q, hq, e'.trans e.symm⟩)
    simp [this]
   rw [List.map_cons, if_pos e, e2, allVals_cons, allVals_cons, List.length_append, List.length_append, e1]; simp only; omega
  ·
   have g' : getL r n = some o := by simpa [getL, e] using g
   have := weight_map_set hn.2 g' o'
   rw [List.map_cons, if_neg e, allVals_cons, allVals_cons, List.length_append, List.length_append]; omega
theorem HeapM.Good.set {H : HeapM} {N : Nat} (h : H.Good N) {v : V} {o : ObjM} (g : H.of v = some o) (o' : ObjM) (k : Nat) (hk : o'.vals.length ≤ o.vals.length + k) : (H.set v.n o').Good (N + k) := by
 refine ⟨h.ok.set _ _, ?_⟩
 have := weight_map_set h.ok.nk (HeapM.of_some g).2 o'
 have := h.wt
 simp only [HeapM.weight, HeapM.set, List.length_map] at *
 omega
theorem HeapM.Good.more {H : HeapM} {N M : Nat} (h : H.Good N) (hM : N ≤ M) : H.Good M := ⟨h.ok, Nat.le_trans h.wt hM⟩
theorem allVals_filter (l : List (Int × ObjM)) (f : Int × ObjM → Bool) : (allVals (l.filter f)).length ≤ (allVals l).length := by
 induction l with
 | nil => simp
 | cons p r ih =>
  rw [List.filter_cons]
  split
  ·
   rw [allVals_cons, allVals_cons, List.length_append, List.length_append]; omega
  ·
   rw [allVals_cons, List.length_append]; omega
theorem HeapM.Good.filter {H H' : HeapM} {N : Nat} (h : H.Good N) (f : Int × ObjM → Bool) (he : H'.objs = H.objs.filter f) (hl : H'.last = H.last) : H'.Good N := by
 refine ⟨⟨?_, fun p hp => ?_, by rw [hl]; exact h.ok.last⟩, ?_⟩
 ·
  rw [he]; exact h.ok.asc.sublist (List.Sublist.map _ (List.filter_sublist))
 ·
  rw [he] at hp; rw [hl]; exact h.ok.pos p (List.mem_filter.1 hp).1
 ·
  have := h.wt
  have h1 := allVals_filter H.objs f
  have h2 := List.length_filter_le f H.objs
  simp only [HeapM.weight] at *
  rw [he, hl]; omega
theorem HeapM.Good.freeAll {H : HeapM} {N : Nat} (h : H.Good N) (ns : List Int) : (H.freeAll ns).Good N := by
 induction ns generalizing H with
 | nil => exact h
 | cons n r ih => exact ih (h.filter _ rfl rfl)
theorem putL_len {l : List (V × V)} {k x : V} : (putL l k x).length ≤ l.length + 1 := by
 unfold putL; split <;> simp
theorem HeapM.Good.add {H : HeapM} {N : Nat} (h : H.Good N) (o : ObjM) : (H.add o).Good (N + o.vals.length + 2) := by
 have h1 := h.ok.last
 refine ⟨⟨?_, fun p hp => ?_, ?_⟩, ?_⟩
 ·
  show (List.map (·.1) (H.objs ++ [(H.last + 1, o)])).Pairwise (· < ·)
  rw [List.map_append, List.pairwise_append]
  refine ⟨h.ok.asc, by simp, fun a ha b hb => ?_⟩
  obtain ⟨p, hp, rfl⟩ := List.mem_map.1 ha
  have := h.ok.pos p hp
  simp at hb; subst hb; omega
 ·
  rcases List.mem_append.1 hp with hp | hp
  ·
   have := h.ok.pos p hp; exact ⟨this.1, by show p.1 ≤ H.last + 1; omega⟩
  ·
   simp at hp; subst hp; exact ⟨by show 1 ≤ H.last + 1; omega, by show H.last + 1 ≤ H.last + 1; omega⟩
 ·
  show 0 ≤ H.last + 1; omega
 ·
  have := h.wt
  have e : (allVals (H.objs ++ [(H.last + 1, o)])).length = (allVals H.objs).length + o.vals.length := by simp [allVals]
  simp only [HeapM.weight, HeapM.add, List.length_append, List.length_singleton] at *
  rw [e]; omega
theorem HeapM.Good.replace {H : HeapM} {N : Nat} (h : H.Good N) (v : V) (i j : Int) (l : List V) : (H.replace v i j l).Good (N + l.length) := by
 unfold HeapM.replace
 split
 ·
  rename_i g; split
  ·
   exact h.set g _ l.length (by simp [ObjM.vals]; omega)
  ·
   exact h.more (by omega)
 ·
  exact h.more (by omega)
theorem HeapM.Good.put {H : HeapM} {N : Nat} (h : H.Good N) (v k x : V) : (H.put v k x).Good (N + 1) := by
 unfold HeapM.put
 split
 ·
  rename_i g; split
  ·
   rename_i oo _
   have := putL_len (l := oo.pairs) (k := k) (x := x)
   exact h.set g _ 1 (by simp [ObjM.vals]; omega)
  ·
   exact h.more (by omega)
 ·
  exact h.more (by omega)
theorem HeapM.Good.sweep {H : HeapM} {N : Nat} (h : H.Good N) (E : List V) : (H.sweep E).Good N := h.filter (fun p => @decide (Kept H E p.1) (Classical.propDecidable _)) rfl rfl
section
variable {w W : World} {h : Nat} {H : HeapM} {L : List (Nat × Obj)} {N : Nat}
end
end Go.Proofs.YtijlebhoapdfnaaGreat
/- A row of values of a law's own, beside the heap. -/
namespace Go.Proofs.YtijlebhoapdfnaaGreat
set_option linter.unusedSimpArgs false
open Go.RowKit
set_option linter.unusedVariables false
theorem own : ownKnob Tryz.prog.godebug = none := by kernel_rfl
theorem SeesV.part {w : World} {ra : Option Addr} {l : List V} {c : Nat} (h : SeesV w (.slice ra l.length c) l) {i j m : Nat} (hij : i ≤ j) (hjl : j ≤ l.length) (hjm : j ≤ m) (hmc : m ≤ c) :
  ∃ a, sliced ra i j m 3 = .slice a (j - i) (m - i) ∧ SeesV w (.slice a (j - i) (m - i)) ((l.drop i).take (j - i)) := by
 obtain ⟨a', c', he, h1, h2, h3⟩ := h
 obtain ⟨rfl, _, rfl⟩ := Value.slice.inj he
 refine ⟨_, rfl, ?_⟩
 have hlen : ((l.drop i).take (j - i)).length = j - i := by rw [List.length_take, List.length_drop]; omega
 refine ⟨_, _, by rw [hlen], by rw [hlen]; omega, by omega, ?_⟩
 by_cases he : j = i
 ·
  left; subst he; simp
 ·
  right
  rcases h3 with h3 | ⟨g, o, h3, h4⟩
  ·
   rw [h3] at hjl; simp at hjl; omega
  ·
   have hmi : ¬ m = i := by omega
   subst h3
   refine ⟨g, o + i * 3, ?_, fun k v hv => ?_⟩
   ·
    simp [hmi, Addr.add]
   ·
    have hk : k < j - i := by have := (List.getElem?_eq_some_iff.1 hv).1; rwa [hlen] at this
    rw [List.getElem?_take, if_pos hk, List.getElem?_drop] at hv
    have := h4 _ _ hv
    rw [Nat.add_mul, ← Nat.add_assoc] at this
    exact this
end Go.Proofs.YtijlebhoapdfnaaGreat
namespace Go.Proofs.YtijlebhoapdfnaaGreat
set_option linter.unusedSimpArgs false
open Go.RowKit
set_option linter.unusedVariables false
structure Res where
 is : World → List Nat → Prop
 loc : ∀ {W W' : World} {F : List Nat}, is W F → (∀ b ∈ F, W'.heap[b]? = W.heap[b]?) → is W' F
 lt : ∀ {W : World} {F : List Nat}, is W F → ∀ b ∈ F, b < W.heap.size
def SepF : List Res → World → List Nat → Prop
 | [], _, F => F = []
 | R :: Rs, W, F => ∃ F1 F2, R.is W F1 ∧ SepF Rs W F2 ∧ F = F1 ++ F2
theorem SepF.loc : ∀ {Rs : List Res} {W W' : World} {F : List Nat}, SepF Rs W F → (∀ b ∈ F, W'.heap[b]? = W.heap[b]?) → SepF Rs W' F
 | [], _, _, _, h, _ => h
 | R :: Rs, W, W', F, ⟨F1, F2, h1, h2, e⟩, k => ⟨F1, F2, R.loc h1 (fun b hb => k b (by rw [e]; exact List.mem_append_left _ hb)), SepF.loc h2 (fun b hb => k b (by rw [e]; exact List.mem_append_right _ hb)), e⟩
theorem SepF.lt : ∀ {Rs : List Res} {W : World} {F : List Nat}, SepF Rs W F → ∀ b ∈ F, b < W.heap.size
 | [], _, _, h, b, hb => by rw [show _ = [] from h] at hb; cases hb
 | R :: Rs, W, F, ⟨F1, F2, h1, h2, e⟩, b, hb => by
  rw [e] at hb
  rcases List.mem_append.1 hb with hb | hb
  ·
   exact R.lt h1 b hb
  ·
   exact SepF.lt h2 b hb
theorem SepF.app : ∀ {As Bs : List Res} {W : World} {F G : List Nat}, SepF As W F → SepF Bs W G → SepF (As ++ Bs) W (F ++ G)
 | [], _, _, _, _, h, k => by rw [show _ = [] from h]; exact k
 | R :: As, Bs, W, F, G, ⟨F1, F2, h1, h2, e⟩, k => ⟨F1, F2 ++ G, h1, h2.app k, by rw [e, List.append_assoc]⟩
theorem SepF.split : ∀ {Rs : List Res} {W : World} {F : List Nat} (i : Nat) {R : Res}, SepF Rs W F → Rs[i]? = some R → ∃ F1 FR F2, R.is W FR ∧ F = F1 ++ (FR ++ F2) ∧
  (∀ (j : Nat) (R2 : Res), j ≠ i → Rs[j]? = some R2 → ∃ G, R2.is W G ∧ ∀ b ∈ G, b ∈ F1 ++ F2) ∧
  ∀ (W' : World) (R' : Res) (FR' : List Nat), R'.is W' FR' → (∀ b ∈ F1 ++ F2, W'.heap[b]? = W.heap[b]?) → SepF (Rs.set i R') W' (F1 ++ (FR' ++ F2))
 | [], _, _, i, _, _, hi => by simp at hi
 | R :: Rs, W, F, 0, R0, ⟨G1, G2, h1, h2, e⟩, hi => by
  simp only [List.getElem?_cons_zero, Option.some.injEq] at hi
  subst hi
  refine ⟨[], G1, G2, h1, by simpa using e, fun j R2 hj hR => ?_, fun W' R' FR' h k => ⟨FR', G2, h, h2.loc (fun b hb => k b (by simpa using hb)), by simp⟩⟩
  obtain ⟨j, rfl⟩ : ∃ j', j = j' + 1 := ⟨j - 1, by omega⟩
  have : ∀ {Rs : List Res} {F : List Nat} {j : Nat}, SepF Rs W F → Rs[j]? = some R2 → ∃ G, R2.is W G ∧ ∀ b ∈ G, b ∈ F := by
   intro Rs
   induction Rs with
   | nil => intro F j h hj; simp at hj
   | cons A As ih =>
    rintro F j ⟨K1, K2, k1, k2, rfl⟩ hj
    cases j with
    | zero => simp at hj; subst hj; exact ⟨K1, k1, fun b hb => List.mem_append_left _ hb⟩
    | succ j => obtain ⟨G, g1, g2⟩ := ih k2 (by simpa using hj); exact ⟨G, g1, fun b hb => List.mem_append_right _ (g2 b hb)⟩
  obtain ⟨G, g1, g2⟩ := this h2 (by simpa using hR)
  exact ⟨G, g1, by simpa using g2⟩
 | R :: Rs, W, F, i + 1, R0, ⟨G1, G2, h1, h2, e⟩, hi => by
  obtain ⟨F1, FR, F2, k1, k2, k4, k3⟩ := SepF.split i h2 (by simpa using hi)
  refine ⟨G1 ++ F1, FR, F2, k1, by rw [e, k2]; simp, fun j R2 hj hR => ?_, fun W' R' FR' h k => ⟨G1, F1 ++ (FR' ++ F2), R.loc h1 (fun b hb => k b (by simp [hb])), k3 W' R' FR' h (fun b hb => k b (by
   rcases List.mem_append.1 hb with hb | hb <;> simp [hb])), by simp⟩⟩
  cases j with
  | zero => simp at hR; subst hR; exact ⟨G1, h1, fun b hb => by simp [hb]⟩
  | succ j =>
   obtain ⟨G, g1, g2⟩ := k4 j R2 (by omega) (by simpa using hR)
   exact ⟨G, g1, fun b hb => by rcases List.mem_append.1 (g2 b hb) with hb | hb <;> simp [hb]⟩
/-- Behind w there lie just these things, apart from one another. -/
def Sep (w : World) (Rs : List Res) (W : World) : Prop := Below w.heap.size w W ∧ ∃ F, SepF Rs W F ∧ F.Nodup ∧ ∀ b ∈ F, w.heap.size ≤ b
theorem Sep.below {w W : World} {Rs : List Res} (S : Sep w Rs W) : Below w.heap.size w W := S.1
theorem Sep.start {w W : World} (h : Below w.heap.size w W) : Sep w [] W := ⟨h, [], rfl, List.nodup_nil, by simp⟩
theorem Sep.later {w W W' : World} {Rs : List Res} (S : Sep w Rs W) (hb : Below W.heap.size W W') : Sep w Rs W' := by
 obtain ⟨h, F, f1, f2, f3⟩ := S
 exact ⟨Below.next h hb h.size, F, f1.loc (fun b hb' => hb.block b (f1.lt b hb')), f2, f3⟩
theorem Sep.drew {w W : World} {Rs : List Res} (S : Sep w Rs W) : Sep w Rs W.drew := S.later (Below.drew (Below.refl _ _))
theorem Sep.drewN {w W : World} {Rs : List Res} (S : Sep w Rs W) (n : Nat) : Sep w Rs (W.drewN n) := S.later (Below.drewN (Below.refl _ _) n)
/-- What a call laid anew. -/
theorem Sep.more {w W W' : World} {Rs Qs : List Res} (S : Sep w Rs W) (hb : Below W.heap.size W W') {G : List Nat} (h : SepF Qs W' G) (hn : G.Nodup) (hg : ∀ b ∈ G, W.heap.size ≤ b) : Sep w (Qs ++ Rs) W' := by
 obtain ⟨hw, F, f1, f2, f3⟩ := S.later hb
 have hlt : ∀ b ∈ F, b < W.heap.size ∨ True := fun _ _ => .inr trivial
 obtain ⟨hw0, F0, g1, g2, g3⟩ := S
 have f1' : SepF Rs W' F0 := g1.loc (fun b hb' => hb.block b (g1.lt b hb'))
 refine ⟨hw, G ++ F0, h.app f1', List.nodup_append.2 ⟨hn, g2, fun a ha b hb' e => ?_⟩, fun b hb' => ?_⟩
 ·
  subst e; have := hg a ha; have := g1.lt a hb'; omega
 ·
  rcases List.mem_append.1 hb' with h1 | h1
  ·
   have := hg b h1; have := hw0.size; omega
  ·
   exact g3 b h1
theorem Sep.add {w W W' : World} {Rs : List Res} {R : Res} (S : Sep w Rs W) (hb : Below W.heap.size W W') {G : List Nat} (h : R.is W' G) (hn : G.Nodup) (hg : ∀ b ∈ G, W.heap.size ≤ b) : Sep w (R :: Rs) W' :=
 S.more (Qs := [R]) hb (G := G) ⟨G, [], h, rfl, by simp⟩ hn hg
/-- A step that turns one thing. -/
theorem Sep.turn {w W W' : World} {Rs : List Res} {R R' : Res} (S : Sep w Rs W) (i : Nat) (hi : Rs[i]? = some R)
  (step : ∀ F, R.is W F → F.Nodup → (∀ b ∈ F, w.heap.size ≤ b) → ∃ F', R'.is W' F' ∧ F'.Nodup ∧ Grow F F' W ∧ Outside F W W') : Sep w (Rs.set i R') W' := by
 obtain ⟨hw, F, f1, f2, f3⟩ := S
 obtain ⟨F1, FR, F2, k1, rfl, -, k3⟩ := f1.split i hi
 have hd := List.nodup_append.1 f2
 have hd2 := List.nodup_append.1 hd.2.1
 obtain ⟨F', g1, g2, g3, g4⟩ := step FR k1 hd2.1 (fun b hb => f3 b (by simp [hb]))
 have hbl : ∀ b ∈ F1 ++ F2, b ∉ FR := fun b hb hR => by
  rcases List.mem_append.1 hb with h | h
  ·
   exact hd.2.2 b h b (by simp [hR]) rfl
  ·
   exact hd2.2.2 b hR b h rfl
 have hlt : ∀ b ∈ F1 ++ F2, b < W.heap.size := fun b hb => f1.lt b (by rcases List.mem_append.1 hb with h | h <;> simp [h])
 have hap : ∀ b ∈ F', b ∉ F1 ++ F2 := fun b hb hm => by
  rcases g3 b hb with h | h
  ·
   exact hbl b hm h
  ·
   have := hlt b hm; omega
 refine ⟨Outside.below_of hw g4 (fun b hb => f3 b (by simp [hb])) hw.size, _, k3 W' R' F' g1 (fun b hb => g4.block b (hlt b hb) (hbl b hb)), ?_, fun b hb => ?_⟩
 ·
  refine List.nodup_append.2 ⟨hd.1, List.nodup_append.2 ⟨g2, hd2.2.1, fun a ha b hb e => ?_⟩, fun a ha b hb e => ?_⟩
  ·
   subst e; exact hap a ha (by simp [hb])
  ·
   subst e
   rcases List.mem_append.1 hb with h | h
   ·
    exact hap a h (by simp [ha])
   ·
    exact hd.2.2 a ha a (by simp [h]) rfl
 ·
  rcases List.mem_append.1 hb with h | h
  ·
   exact f3 b (by simp [h])
  ·
   rcases List.mem_append.1 h with h | h
   ·
    rcases g3 b h with h | h
    ·
     exact f3 b (by simp [h])
    ·
     have := hw.size; omega
   ·
    exact f3 b (by simp [h])
theorem Sep.get {w W : World} {Rs : List Res} {R : Res} (S : Sep w Rs W) (i : Nat) (hi : Rs[i]? = some R) : ∃ F, R.is W F ∧ F.Nodup ∧ ∀ b ∈ F, w.heap.size ≤ b := by
 obtain ⟨hw, F, f1, f2, f3⟩ := S
 obtain ⟨F1, FR, F2, k1, rfl, -, k3⟩ := f1.split i hi
 have hd := List.nodup_append.1 f2
 exact ⟨FR, k1, (List.nodup_append.1 hd.2.1).1, fun b hb => f3 b (by simp [hb])⟩
theorem SepF.sub : ∀ {Rs Qs : List Res} {W : World} {F : List Nat}, Qs.Sublist Rs → SepF Rs W F → ∃ G, SepF Qs W G ∧ G.Sublist F
 | _, _, _, _, .slnil, h => ⟨[], rfl, List.nil_sublist _⟩
 | _, _, W, F, .cons R hs, ⟨F1, F2, h1, h2, e⟩ => by
  obtain ⟨G, g1, g2⟩ := SepF.sub hs h2
  exact ⟨G, g1, by rw [e]; exact g2.trans (List.sublist_append_right _ _)⟩
 | _, _, W, F, .cons_cons R hs, ⟨F1, F2, h1, h2, e⟩ => by
  obtain ⟨G, g1, g2⟩ := SepF.sub hs h2
  exact ⟨F1 ++ G, ⟨F1, G, h1, g1, rfl⟩, by rw [e]; exact List.Sublist.append (List.Sublist.refl _) g2⟩
theorem Sep.sub {w W : World} {Rs Qs : List Res} (S : Sep w Rs W) (h : Qs.Sublist Rs) : Sep w Qs W := by
 obtain ⟨hw, F, f1, f2, f3⟩ := S
 obtain ⟨G, g1, g2⟩ := f1.sub h
 exact ⟨hw, G, g1, g2.nodup f2, fun b hb => f3 b (g2.subset hb)⟩
theorem Sep.tail {w W : World} {Rs : List Res} {R : Res} (S : Sep w (R :: Rs) W) : Sep w Rs W := S.sub (List.sublist_cons_self _ _)
/-- The first one is known to the things as another one. -/
theorem Sep.swap {w W : World} {Rs : List Res} {A B : Res} (S : Sep w (A :: B :: Rs) W) : Sep w (B :: A :: Rs) W := by
 obtain ⟨hw, F, ⟨F1, F2, h1, ⟨F3, F4, h3, h4, rfl⟩, rfl⟩, f2, f3⟩ := S
 have hp : (F1 ++ (F3 ++ F4)).Perm (F3 ++ (F1 ++ F4)) := by rw [← List.append_assoc, ← List.append_assoc]; exact List.Perm.append_right _ List.perm_append_comm
 exact ⟨hw, F3 ++ (F1 ++ F4), ⟨F3, F1 ++ F4, h3, ⟨F1, F4, h1, h4, rfl⟩, rfl⟩, hp.nodup_iff.1 f2, fun b hb => f3 b (hp.mem_iff.2 hb)⟩
/-- The things that there are: a block, a row, a heap. -/
def boxR (b : Nat) (o : Obj) : Res := ⟨fun W F => W.heap[b]? = some o ∧ F = [b], fun {W W' F} h k => ⟨(k b (by rw [h.2]; simp)).trans h.1, h.2⟩, fun {W F} h b' hb => by rw [h.2] at hb; simp at hb; subst hb; exact blockLt h.1⟩
abbrev objW (k n : Int) (s : ByteArray) : Obj := .cells #[.int .i64 k, .int .i64 n, .string s] 24
abbrev objV (x : V) : Obj := .cells #[.int .i64 x.kind, .int .i64 x.n, .string x.s] 24
abbrev objZ : Obj := .cells #[.int .i64 0, .int .i64 0, .string ⟨#[]⟩] 24
abbrev objN (s : ByteArray) : Obj := .cells #[.string s, .int .i64 0, .int .i64 0, .string ⟨#[]⟩, .bool false] 33
abbrev objE : Obj := .cells #[.string ⟨#[]⟩, .int .i64 0, .int .i64 0, .string ⟨#[]⟩, .bool false] 33
abbrev boxW (q : Nat) (k n : Int) (s : ByteArray) : Res := boxR q (.cells #[.int .i64 k, .int .i64 n, .string s] 24)
abbrev boxV (q : Nat) (x : V) : Res := boxR q (.cells #[.int .i64 x.kind, .int .i64 x.n, .string x.s] 24)
abbrev boxZ (q : Nat) : Res := boxR q (.cells #[.int .i64 0, .int .i64 0, .string ⟨#[]⟩] 24)
abbrev boxN (q : Nat) (s : ByteArray) : Res := boxR q (.cells #[.string s, .int .i64 0, .int .i64 0, .string ⟨#[]⟩, .bool false] 33)
abbrev boxE (q : Nat) : Res := boxR q (.cells #[.string ⟨#[]⟩, .int .i64 0, .int .i64 0, .string ⟨#[]⟩, .bool false] 33)
def rowR {α : Type} (e : TypeId) (m : Nat) (f : α → List Value) (v : Value) (l : List α) : Res :=
 ⟨fun W F => slIs W e m f v l ∧ F = v.ownBlock.toList, fun {W W' F} h k => ⟨h.1.of_block fun g hg => k g (by rw [h.2, hg]; simp), h.2⟩, fun {W F} h b hb => by rw [h.2] at hb; exact h.1.lt b (by simpa using hb)⟩
abbrev valsR (v : Value) (l : List V) : Res := rowR 24 3 V.cells v l
abbrev numsR (v : Value) (l : List Int) : Res := rowR 2 1 intCell v l
def heapR (h : Nat) (H : HeapM) : Res := ⟨fun W F => HeapIs W h H (fun _ => 0) F, fun {W W' F} h k => h.of_block k, fun {W F} h => h.lt⟩
theorem HeapIs.nodup {w : World} {h : Nat} {H : HeapM} {ε : Int → Int} {F : List Nat} (hh : HeapIs w h H ε F) : F.Nodup := by
 obtain ⟨ma, mr, rows, r, h1, h2, h3, h4, h5, h6, h7, h8⟩ := hh; exact h7
theorem ownNodup (v : Value) : v.ownBlock.toList.Nodup := by cases v.ownBlock <;> simp
section
variable {w W W' : World} {Rs : List Res} {h : Nat} {H : HeapM}
theorem Sep.alloc (S : Sep w Rs W) (o : Obj) : Sep w (boxR W.heap.size o :: Rs) (W.alloc o) :=
 S.add (belowAlloc W o) (G := [W.heap.size]) ⟨heapAllocNew W o, rfl⟩ (by simp) (by simp)
theorem Sep.box (S : Sep w Rs W) {b : Nat} {o : Obj} (i : Nat) (hi : Rs[i]? = some (boxR b o)) : W.heap[b]? = some o := by
 obtain ⟨F, h, _⟩ := S.get i hi; exact h.1
theorem Sep.row (S : Sep w Rs W) {α : Type} {e : TypeId} {m : Nat} {f : α → List Value} {v : Value} {l : List α} (i : Nat) (hi : Rs[i]? = some (rowR e m f v l)) : slIs W e m f v l := by
 obtain ⟨F, h, _⟩ := S.get i hi; exact h.1
theorem Sep.addRow (S : Sep w Rs W) (hb : Below W.heap.size W W') {α : Type} {e : TypeId} {m : Nat} {f : α → List Value} {v : Value} {l : List α} (hs : slIs W' e m f v l) (hg : ∀ g, v.ownBlock = some g → W.heap.size ≤ g) : Sep w (rowR e m f v l :: Rs) W' :=
 S.add hb (G := v.ownBlock.toList) ⟨hs, rfl⟩ (ownNodup v) (fun b hb' => hg b (by simpa using hb'))
/-- A row that has grown. -/
theorem Sep.grown (S : Sep w Rs W) {α : Type} {e : TypeId} {m : Nat} {f : α → List Value} {v v' : Value} {l l' : List α} (i : Nat) (hi : Rs[i]? = some (rowR e m f v l)) (hs : slIs W' e m f v' l') (hg : W.grownBy W' v.ownBlock) (hat : v'.ownBlock = v.ownBlock ∨ v'.ownBlock = some W.heap.size) : Sep w (Rs.set i (rowR e m f v' l')) W' :=
 S.turn i hi fun F hF _ _ => ⟨v'.ownBlock.toList, ⟨hs, rfl⟩, ownNodup v', fun b hb => by
  rcases hat with h1 | h1
  ·
   left; rw [hF.2, ← h1]; exact hb
  ·
   right; rw [h1] at hb; simp at hb; omega, by rw [hF.2]; exact Outside.of_grown hg⟩
/-- A heap beside all else. -/
theorem Sep.viaHAt (S : Sep w Rs W) (i : Nat) (hi : Rs[i]? = some (heapR h H)) : ∃ L, HAt w h H L W ∧ (∀ W' H', HAt w h H' L W' → Sep w (Rs.set i (heapR h H')) W') ∧
  (∀ (j : Nat) (R : Res) (g : Nat), j ≠ i → Rs[j]? = some R → (∀ F, R.is W F → g ∈ F) → ∃ o, (g, o) ∈ L) := by
 obtain ⟨hw, F, f1, f2, f3⟩ := S
 obtain ⟨F1, FR, F2, k1, rfl, k4, k3⟩ := f1.split i hi
 have hd := List.nodup_append.1 f2
 have hd2 := List.nodup_append.1 hd.2.1
 have hbl : ∀ b ∈ F1 ++ F2, b ∉ FR := fun b hb hR => by
  rcases List.mem_append.1 hb with h | h
  ·
   exact hd.2.2 b h b (by simp [hR]) rfl
  ·
   exact hd2.2.2 b hR b h rfl
 have hlt : ∀ b ∈ F1 ++ F2, b < W.heap.size := fun b hb => f1.lt b (by rcases List.mem_append.1 hb with h | h <;> simp [h])
 let L : List (Nat × Obj) := (F1 ++ F2).filterMap fun b => (W.heap[b]?).map fun o => (b, o)
 have hL : ∀ b ∈ F1 ++ F2, ∃ o, W.heap[b]? = some o ∧ (b, o) ∈ L := fun b hb => by
  have hlt := hlt b hb
  have ho : W.heap[b]? = some W.heap[b] := by simp [hlt]
  exact ⟨_, ho, List.mem_filterMap.2 ⟨b, hb, by rw [ho]; rfl⟩⟩
 refine ⟨L, ⟨FR, k1, fun b hb => f3 b (by simp [hb]), hw, fun p hp => ?_⟩, fun W' H' A => ?_, fun j R g hj hR hg => ?_⟩
 ·
  obtain ⟨b, hb, e⟩ := List.mem_filterMap.1 hp
  obtain ⟨o, ho, -⟩ := hL b hb
  rw [ho] at e
  simp only [Option.map_some, Option.some.injEq] at e
  subst e
  exact ⟨ho, hbl b hb⟩
 ·
  obtain ⟨F', a1, a2, a3, a4⟩ := A
  have hsame : ∀ b ∈ F1 ++ F2, W'.heap[b]? = W.heap[b]? := fun b hb => by
   obtain ⟨o, ho, hm⟩ := hL b hb
   rw [ho]; exact (a4 _ hm).1
  have hap : ∀ b ∈ F', b ∉ F1 ++ F2 := fun b hb hm => by
   obtain ⟨o, ho, hm⟩ := hL b hm
   exact (a4 _ hm).2 hb
  refine ⟨a3, _, k3 W' (heapR h H') F' a1 hsame, ?_, fun b hb => ?_⟩
  ·
   refine List.nodup_append.2 ⟨hd.1, List.nodup_append.2 ⟨a1.nodup, hd2.2.1, fun a ha b hb e => ?_⟩, fun a ha b hb e => ?_⟩
   ·
    subst e; exact hap a ha (by simp [hb])
   ·
    subst e
    rcases List.mem_append.1 hb with h | h
    ·
     exact hap a h (by simp [ha])
    ·
     exact hd.2.2 a ha a (by simp [h]) rfl
  ·
   rcases List.mem_append.1 hb with h | h
   ·
    exact f3 b (by simp [h])
   ·
    rcases List.mem_append.1 h with h | h
    ·
     exact a2 b h
    ·
     exact f3 b (by simp [h])
 ·
  obtain ⟨G, g1, g2⟩ := k4 j R hj hR
  obtain ⟨o, -, hm⟩ := hL g (g2 g (hg G g1))
  exact ⟨o, hm⟩
/-- A slice that is of what the law was given, or of a thing beside the i-th. -/
def ArgS (w W : World) (Rs : List Res) (i : Nat) (sv : Value) : Prop := ∀ g o n c, sv = .slice (some ⟨g, o, none⟩) n c → 0 < n → g < w.heap.size ∨ ∃ (j : Nat) (R : Res), j ≠ i ∧ Rs[j]? = some R ∧ ∀ F, R.is W F → g ∈ F
theorem ArgS.row {α : Type} {e : TypeId} {m : Nat} {f : α → List Value} {v : Value} {l : List α} {i : Nat} (j : Nat) (hj : j ≠ i) (hR : Rs[j]? = some (rowR e m f v l)) : ArgS w W Rs i v := fun g o n c e h0 => .inr ⟨j, _, hj, hR, fun F hF => by rw [hF.2, e]; simp [Value.ownBlock]⟩
theorem ArgS.box {b : Nat} {ob : Obj} {i n c : Nat} {o : Nat} (j : Nat) (hj : j ≠ i) (hR : Rs[j]? = some (boxR b ob)) : ArgS w W Rs i (.slice (some ⟨b, o, none⟩) n c) := fun g o n c e h0 => .inr ⟨j, _, hj, hR, fun F hF => by cases e; rw [hF.2]; simp⟩
theorem ArgS.nil {i : Nat} : ArgS w W Rs i (.slice none 0 0) := fun g o n c e h0 => by cases e
variable {N : Nat}
theorem Sep.setSame {i : Nat} {R : Res} (hi : Rs[i]? = some R) : Rs.set i R = Rs := by
 obtain ⟨hk, rfl⟩ := List.getElem?_eq_some_iff.1 hi; exact List.set_getElem_self hk
/-- The heap's methods beside all else. -/
theorem Sep.kind (S : Sep w Rs W) (i : Nat) (hi : Rs[i]? = some (heapR h H)) (v : V) : Calls Tryz.prog 72 #[.pointer (some ⟨h, 0, none⟩), v.val] W fun e W' => e = .returned (.int .i64 (H.kind v)) ∧ Sep w Rs W' ∧ Below W.heap.size W W' := by
 obtain ⟨F, h1, _⟩ := S.get i hi
 exact (heap_kind W h v h1).mono fun e W' ⟨e1, e2⟩ => ⟨e1, S.later e2, e2⟩
theorem Sep.name (S : Sep w Rs W) (i : Nat) (hi : Rs[i]? = some (heapR h H)) (v : V) : Calls Tryz.prog 73 #[.pointer (some ⟨h, 0, none⟩), v.val] W fun e W' => e = .returned (.string (H.name v)) ∧ Sep w Rs W' ∧ Below W.heap.size W W' := by
 obtain ⟨F, h1, _⟩ := S.get i hi
 exact (heap_name W h v h1).mono fun e W' ⟨e1, e2⟩ => ⟨e1, S.later e2, e2⟩
theorem Sep.num (S : Sep w Rs W) (i : Nat) (hi : Rs[i]? = some (heapR h H)) (v : V) : Calls Tryz.prog 75 #[.pointer (some ⟨h, 0, none⟩), v.val] W fun e W' => e = .returned (.int .i64 (H.num v)) ∧ Sep w Rs W' ∧ Below W.heap.size W W' := by
 obtain ⟨F, h1, _⟩ := S.get i hi
 exact (heap_num W h v h1).mono fun e W' ⟨e1, e2⟩ => ⟨e1, S.later e2, e2⟩
theorem Sep.get_ (S : Sep w Rs W) (i : Nat) (hi : Rs[i]? = some (heapR h H)) (v k : V) : Calls Tryz.prog 80 #[.pointer (some ⟨h, 0, none⟩), v.val, k.val] W fun e W' => e = .returned (.tuple #[((H.get v k).getD V.zero).val, .bool (H.get v k).isSome]) ∧ Sep w Rs W' ∧ Below W.heap.size W W' := by
 obtain ⟨F, h1, _⟩ := S.get i hi
 exact (heap_get W h v k h1).mono fun e W' ⟨e1, e2⟩ => ⟨e1, S.later e2, e2⟩
theorem Sep.items (S : Sep w Rs W) (i : Nat) (hi : Rs[i]? = some (heapR h H)) (G : H.Good N) (hN : N ≤ 4000000) (v : V) : Calls Tryz.prog 78 #[.pointer (some ⟨h, 0, none⟩), v.val] W fun e W' => ∃ sv, e = .returned sv ∧ Sep w (valsR sv (H.items v) :: Rs) W' ∧ Below W.heap.size W W' := by
 obtain ⟨F, h1, _⟩ := S.get i hi
 have := G.items v
 exact (heap_items W h v h1 (by omega)).mono fun e W' ⟨sv, e1, e2, e3, e4⟩ => ⟨sv, e1, S.addRow e4 e2 e3, e4⟩
theorem Sep.len (S : Sep w Rs W) (i : Nat) (hi : Rs[i]? = some (heapR h H)) (v : V) : Calls Tryz.prog 86 #[.pointer (some ⟨h, 0, none⟩), v.val] W fun e W' => e = .returned (.int .i64 (H.items v).length) ∧ Sep w Rs W' ∧ Below W.heap.size W W' := by
 obtain ⟨F, h1, _⟩ := S.get i hi
 exact (heap_len W h v h1).mono fun e W' ⟨e1, e2⟩ => ⟨e1, S.later e2, e2⟩
theorem Sep.size (S : Sep w Rs W) (i : Nat) (hi : Rs[i]? = some (heapR h H)) (v : V) : Calls Tryz.prog 150 #[.pointer (some ⟨h, 0, none⟩), v.val] W fun e W' => e = .returned (.int .i64 (H.pairs v).length) ∧ Sep w Rs W' ∧ Below W.heap.size W W' := by
 obtain ⟨F, h1, _⟩ := S.get i hi
 exact (heap_size W h v h1).mono fun e W' ⟨e1, e2⟩ => ⟨e1, S.later e2, e2⟩
theorem Sep.keys (S : Sep w Rs W) (i : Nat) (hi : Rs[i]? = some (heapR h H)) (v : V) : Calls Tryz.prog 79 #[.pointer (some ⟨h, 0, none⟩), v.val] W fun e W' => ∃ sv, e = .returned sv ∧ Sep w (valsR sv ((H.pairs v).map (·.1)) :: Rs) W' ∧ Below W.heap.size W W' := by
 obtain ⟨F, h1, _⟩ := S.get i hi
 exact (heap_keys W h v h1).mono fun e W' ⟨sv, e1, e2, e3, e4⟩ => ⟨sv, e1, S.addRow e4 e2 e3, e4⟩
theorem Sep.make (S : Sep w Rs W) (i : Nat) (hi : Rs[i]? = some (heapR h H)) (G : H.Good N) (hN : N + 1 ≤ 4000000) (o : ObjM) (sv : Value) (hs : SeesV W sv o.items) (hlen : o.items.length ≤ 4194304) (hp : o.pairs = []) (hk1 : 1 ≤ o.kind) (hk2 : o.kind ≤ 12) : Calls Tryz.prog 35 #[.pointer (some ⟨h, 0, none⟩), .int .i64 o.kind, .string o.name, .int .i64 o.num, sv] W fun e W' => e = .returned (.agg #[.int .i64 4, .int .i64 (H.last + 1), .string ⟨#[]⟩]) ∧ Sep w (Rs.set i (heapR h (H.add o))) W' := by
 obtain ⟨L, A, back, arg⟩ := S.viaHAt i hi
 exact (A.make G hN o sv hs hlen hp hk1 hk2).mono fun e W' ⟨e1, e2⟩ => ⟨e1, back _ _ e2⟩
theorem Sep.replace (S : Sep w Rs W) (i : Nat) (hi : Rs[i]? = some (heapR h H)) (G : H.Good N) (v : V) (p q : Int) (sv : Value) (l : List V) (hs : SeesV W sv l) (hN : N + l.length ≤ 4000000) : Calls Tryz.prog 43 #[.pointer (some ⟨h, 0, none⟩), v.val, .int .i64 p, .int .i64 q, sv] W fun e W' => e = .returned (.bool (H.canReplace v p q)) ∧ Sep w (Rs.set i (heapR h (H.replace v p q l))) W' := by
 obtain ⟨L, A, back, arg⟩ := S.viaHAt i hi
 exact (A.replace G v p q sv l hs hN).mono fun e W' ⟨e1, e2⟩ => ⟨e1, back _ _ e2⟩
theorem Sep.put (S : Sep w Rs W) (i : Nat) (hi : Rs[i]? = some (heapR h H)) (v k x : V) : Calls Tryz.prog 45 #[.pointer (some ⟨h, 0, none⟩), v.val, k.val, x.val] W fun e W' => e = .returned (.bool (H.canPut v k)) ∧ Sep w (Rs.set i (heapR h (H.put v k x))) W' := by
 obtain ⟨L, A, back, arg⟩ := S.viaHAt i hi
 exact (A.put v k x).mono fun e W' ⟨e1, e2⟩ => ⟨e1, back _ _ e2⟩
theorem Sep.new (S : Sep w Rs W) : Calls Tryz.prog 34 #[] W fun e W' => ∃ h, e = .returned (.pointer (some ⟨h, 0, none⟩)) ∧ Sep w (heapR h ⟨[], 0⟩ :: Rs) W' ∧ Below W.heap.size W W' := by
 exact (heap_new W).mono fun e W' ⟨h, F, e1, e2, e3, e4⟩ => ⟨h, e1, S.add e4 (G := F) e2 e2.nodup e3, e4⟩
end
end Go.Proofs.YtijlebhoapdfnaaGreat
