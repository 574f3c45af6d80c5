/- value.Of: kind 3, by slices.Chunk; a region that draws its order, inside a round. -/
import Derived.Test.YtjjmfmlgemdjkaaTValA
import Derived.Test.YtjjmfmlgemdjkaaTWLast
import Derived.Test.YtjjmfmlgemdjkaaTWTab
namespace Go.Proofs.Ytjjmfmlgemdjkaa
open Go.RowKit Go.Shelf Go.Proofs.YtjjmfmlgemdjkaaW.PrintWords Go.Proofs.YtjjmfmlgemdjkaaW.PrintMore Go.Proofs.YtjjmfmlgemdjkaaW.PrintLast

attribute [local go_sem] Oper.semAt_some max2_int min2_int max_two min_two

theorem oper_in_round {l n : Nat} {P : Program} {o : Oper} {a : Act} {w : World} {K K' : Act → World → Prop} {Q : Exit → Act → World → Prop} (hnd : ∀ c, o.op ≠ .defer c) (hK : ∀ a w, K a w → K' a w) (h : o.wp P a w K Q) :
    o.wpIn (Fence.wide.inRound l) n P a w K' Q := by
  refine ⟨fun _ _ => trivial, ?_⟩
  rw [show (Fence.wide.inRound l).round = some l from rfl, Oper.semAt_some l _ _ hnd]
  unfold Oper.wp at h
  generalize (execOp a.eval o).run P w = r at *
  cases r with
  | ok x w' =>
    cases x <;> simp only [Oper.upon, Oper.uponIn] at h ⊢
    case value v => exact hK _ _ h
    case skip => exact hK _ _ h
    case defer d => exact hK _ _ h
    case enter f args =>
      refine ⟨fun e => by simp [Fence.wide] at e, CallsIn.inRound l (callsIn_wide.2 (h.mono fun e w'' he => ?_))⟩
      cases e with
      | returned v => exact hK _ _ he
      | panicked c => exact he
      | outgrown => exact he
    case row row args =>
      refine ⟨fun e => by simp [Fence.wide] at e, fun c cs _ => ?_⟩
      obtain ⟨v, w2, hv, hs⟩ := h c cs
      exact ⟨v, w2, hK _ _ hv, stepsIn_wide.2 hs⟩
  | halt x w' => cases x <;> simp only [Oper.upon, Oper.uponIn] at h ⊢ <;> exact h

theorem ops_in_round {l n : Nat} {P : Program} {ops : Array Oper} {Q : Exit → Act → World → Prop} (hnd : ∀ (i : Nat) (o : Oper), ops[i]? = some o → ∀ c, o.op ≠ .defer c) (hQ : ¬ LetsOut Q) :
    ∀ (is : List Nat) (a : Act) (w : World), wpOps P ops Q is a w → wpOpsIn (Fence.wide.inRound l) n P ops Q is a w
  | [], _, _, h => h
  | i :: rest, a, w, h => by
    unfold wpOps at h
    unfold wpOpsIn
    cases ho : ops[i]? with
    | none =>
      rw [ho] at h
      exact ops_in_round hnd hQ rest a w h
    | some o =>
      rw [ho] at h
      dsimp only at h ⊢
      split
      · rename_i hw
        rw [if_pos hw] at h
        rcases h with h | h
        · exact oper_in_round (hnd i o ho) (fun a w => ops_in_round hnd hQ rest a w) h
        · exact absurd h.2 hQ
      · rename_i hw
        rw [if_neg hw] at h
        exact ⟨fun _ _ => trivial, ops_in_round hnd hQ rest _ w h⟩

def noDeferB (ops : Array Oper) : Bool := ops.all fun o => match o.op with | .defer _ => false | _ => true

theorem startIn_ {l id n N : Nat} {P : Program} {ops : Array Oper} {Q : Exit → Act → World → Prop} {S : World → Prop} {ds : List Nat} {a : Act} {w : World} (L : Array Bool) (hm : P.follows .mixedOrders = true) (hn : ops.size = n) (hl : Array.replicate n false = L)
    (hnd : noDeferB ops = true) (hQ : ¬ LetsOut Q) (hS : S w.drew)
    (h : S w.drew → wpAnyLast P .any ops Q S ds n L a w.drew) : (Code.region id ops true).wpIn (Fence.wide.inRound l) N P Q a w := by
  subst hn
  subst hl
  refine wpIn_region_draw fun t => ?_
  simp only [Region.schedule, hm, Bool.true_or, if_true]
  refine ops_in_round (fun i o ho c hc => ?_) hQ _ _ _ (wpAny_sound ops.size t _ a _ (wpAny_of_last _ _ _ _ (h hS)))
  obtain ⟨hlt, hoe⟩ := Array.getElem?_eq_some_iff.1 ho
  have := Array.all_eq_true.1 hnd i hlt
  rw [hoe, hc] at this
  cases this

abbrev kPair : Kd (ByteArray × ByteArray) := Kd.pair Kd.string Kd.string
def pairAt (l : List ByteArray) (k : Nat) : ByteArray × ByteArray := (l.getD (2 * k) ByteArray.empty, l.getD (2 * k + 1) ByteArray.empty)

/-- Between two rounds. -/
def OfInv (w : World) (l : List ByteArray) (m : Nat) (ad : Addr) (c : Nat) (pre : List (Fin m)) (W : World) : Prop :=
  (∃ v, W.heap[w.heap.size + 1]? = some (.cells #[.int .i64 3, .string ⟨#[]⟩, .slice none 0 0, v] 52 (0, 0)) ∧ Kd.R kPair 76 W w.heap.size (fun _ => True) v (pre.map fun k => pairAt l k.1)) ∧
  W.heap[w.heap.size]? = some (.cells #[.int .i64 0, .string ⟨#[]⟩, .slice none 0 0, .slice none 0 0] 52 (0, 0)) ∧
  W.heap[w.heap.size + 2]? = some (.cells #[.slice (some ad) (2 * m) c] 49 (0, 0)) ∧
  W.heap[w.heap.size + 3]? = some (.cells #[.int .i64 2] 3 (0, 0))

theorem blk_own {A B : World} {row : Option Nat} {g t : Nat} {cs : Array Value} (h : A.heap[g]? = some (.cells cs t (0, 0))) (hg : A.grownBy B row) (hr : ∀ r, row = some r → ∃ o : Obj, A.heap[r]? = some o ∧ o.isCells = false) : B.heap[g]? = some (.cells cs t (0, 0)) :=
  blk_grown h hg fun e => by
    obtain ⟨o, ho, hc⟩ := hr g e.symm
    rw [h] at ho
    cases ho
    cases hc

theorem R_own {α : Type} {d : Kd α} {e : Nat} {A B : World} {base : Nat} {ok : Nat → Prop} {v : Value} {xs : List α} {row : Option Nat} (h : d.R e A base ok v xs) (hg : A.grownBy B row) (hr : ∀ r, row = some r → ∃ o : Obj, A.heap[r]? = some o ∧ o.isCells = false) : d.R e B base ok v xs :=
  Kd.R_mono (Kd.R_move (Kd.R_bound h) fun k hk => by
    obtain ⟨_, _, hlt, q, _, cells, hc⟩ := hk
    exact (blk_own hc hg hr).trans hc.symm) fun _ hk => hk.1

theorem ofInv_own (w : World) (l : List ByteArray) (m : Nat) (ad : Addr) (c : Nat) : Own (OfInv w l m ad c) := by
  rintro s A B row ⟨⟨v, h1, h2⟩, h3, h4, h5⟩ hg hr
  exact ⟨⟨v, blk_own h1 hg hr, R_own h2 hg hr⟩, blk_own h3 hg hr, blk_own h4 hg hr, blk_own h5 hg hr⟩

set_option maxRecDepth 100000 in
set_option maxHeartbeats 4000000 in
theorem ofPairs_in (m : Nat) (hm0 : 0 < m) (hm : m ≤ 1000000) (ad : Addr) (c : Nat) (hc : 2 * m ≤ c) (l : List ByteArray) (w : World)
    (hcell : ∀ j, j < 2 * m → w.cell? (ad.add j) = some (.string (l.getD j ByteArray.empty))) :
    CallsIn Fence.wide 10 Try.prog 44 #[.int .i64 3, .slice (some ad) (2 * m) c] w fun e w' => ∃ v, e = .returned (.tuple #[.agg #[.int .i64 3, .string ⟨#[]⟩, .slice none 0 0, v], .bool true]) ∧
      Kd.R kPair 76 w' w.heap.size (fun _ => True) v ((List.finRange m).map fun k => pairAt l k.1) ∧ Below w.heap.size w w' := by
  have hro : Fence.wide.round = none := rfl
  have hr0 : (0 : Int) < 2 * (m : Int) := by omega
  refine callsIn_of_wp_marks Try.func44 rfl trivial ?_ hro
  simp only [Try.ntmps44, List.size_toArray, List.length_cons, List.length_nil, Nat.reduceAdd, Nat.reduceSub, Array.replicate_succ, Array.replicate_zero, List.push_toArray, List.append_toArray, List.nil_append, List.cons_append]
  gi_wp2_with (refine ⟨trivial, ?_⟩; gi_at_call 71; refine (chunk_in _ _ _ _ _).mono ?_; rintro e w' ⟨rfl, rfl⟩)
  obtain ⟨W0, hW0⟩ : ∃ W0, ((((w.alloc (.cells #[.int .i64 0, .string ⟨#[]⟩, .slice none 0 0, .slice none 0 0] 52)).alloc (.cells #[.int .i64 3, .string ⟨#[]⟩, .slice none 0 0, .slice none 0 0] 52)).alloc (.cells #[.slice (some ad) (2 * m) c] 49)).alloc (.cells #[.int .i64 2] 3)) = W0 := ⟨_, rfl⟩
  have hB0 : Below w.heap.size w W0 := by
    subst hW0
    exact ((((Below.refl _ w).alloc (Nat.le_refl _) _).alloc (by simp) _).alloc (by simp; omega) _).alloc (by simp; omega) _
  have hsz : W0.heap.size = w.heap.size + 4 := by subst hW0; simp
  have hI0 : OfInv w l m ad c [] W0 := by
    subst hW0
    have b0 := blk_new w (.cells #[.int .i64 0, .string ⟨#[]⟩, .slice none 0 0, .slice none 0 0] 52)
    have b1 := blk_new (w.alloc (.cells #[.int .i64 0, .string ⟨#[]⟩, .slice none 0 0, .slice none 0 0] 52)) (.cells #[.int .i64 3, .string ⟨#[]⟩, .slice none 0 0, .slice none 0 0] 52)
    have b2 := blk_new ((w.alloc (.cells #[.int .i64 0, .string ⟨#[]⟩, .slice none 0 0, .slice none 0 0] 52)).alloc (.cells #[.int .i64 3, .string ⟨#[]⟩, .slice none 0 0, .slice none 0 0] 52)) (.cells #[.slice (some ad) (2 * m) c] 49)
    have b3 := blk_new (((w.alloc (.cells #[.int .i64 0, .string ⟨#[]⟩, .slice none 0 0, .slice none 0 0] 52)).alloc (.cells #[.int .i64 3, .string ⟨#[]⟩, .slice none 0 0, .slice none 0 0] 52)).alloc (.cells #[.slice (some ad) (2 * m) c] 49)) (.cells #[.int .i64 2] 3)
    simp only [World.size_alloc] at b1 b2 b3
    exact ⟨⟨_, blk_alloc (blk_alloc b1 _) _, Kd.R_nil _ _ _ _ _⟩, blk_alloc (blk_alloc (blk_alloc b0 _) _) _, blk_alloc b2 _, b3⟩
  rw [hW0]
  clear hW0
  refine wpIn_rangeFunc_ownG hro (by omega) (gf := 81) (lb := #[.pointer (some ⟨w.heap.size + 2, 0, none⟩), .pointer (some ⟨w.heap.size + 3, 0, none⟩)]) rfl trivial (enters_of Try.func81 (by kernel_rfl) rfl)
    (chunk_stops 9 (by omega) (w.heap.size + 2) (w.heap.size + 3) ad m c hm hc W0 hI0.2.2.1 hI0.2.2.2) (fun h k => ⟨k.1.trans h.1, k.2.trans h.2⟩)
    (fun W b o o' hb ho hoc _ => ⟨World.putObj_heap_other (by omega), World.putObj_heap_other (by omega)⟩) (Below.refl _ _) (fun _ => rfl)
    (fun pre W => OfInv w l m ad c pre W ∧ Below w.heap.size w W) (fun _ _ _ => False)
    (OwnFrom.and (Own.from (ofInv_own w l m ad c) _) (ownFrom_below (Nat.le_refl _) (by omega)))
    (fun _ _ _ _ _ hs _ _ => hs) ⟨hI0, hB0⟩ ?a1 ?assign ?body ?done ?stop
  case assign =>
    intro l x W K hK
    gi_wp2
    exact hK
  case body =>
    rintro lp pre x W ⟨⟨⟨v, hv, hrow⟩, hz, hs, hn⟩, hB⟩ hlt
    have hx := x.2
    have hw0 := Aside0.mk (hcell (2 * x.1) (by omega))
    have hw1 := Aside0.mk (hcell (2 * x.1 + 1) (by omega))
    rw [add_field ad (2 * x.1) 1 (by omega)] at hw1
    obtain ⟨ax, hax⟩ : ∃ ax, ad.add (2 * x.1) = ax := ⟨_, rfl⟩
    obtain ⟨t0, ht0⟩ : ∃ t0, l.getD (2 * x.1) ByteArray.empty = t0 := ⟨_, rfl⟩
    obtain ⟨t1, ht1⟩ : ∃ t1, l.getD (2 * x.1 + 1) ByteArray.empty = t1 := ⟨_, rfl⟩
    have hpx := Aside0.mk (show pairAt l x.1 = (t0, t1) by unfold pairAt; rw [ht0, ht1])
    dsimp only [pairV]
    rw [hax] at hw0 hw1 ⊢
    rw [ht0] at hw0
    rw [ht1] at hw1
    clear hax ht0 ht1
    have HB := Aside0.mk hB.drew
    have c0 := Aside0.mk ((HB.out.cell (World.block_lt_of_cell? w _ hw0.out)).trans hw0.out)
    have c1 := Aside0.mk ((HB.out.cell (World.block_lt_of_cell? w _ hw1.out)).trans hw1.out)
    have BK := Aside0.mk (blk_drew hv)
    have BZ := Aside0.mk (blk_drew hz)
    have BS := Aside0.mk (blk_drew hs)
    have BN := Aside0.mk (blk_drew hn)
    have HO2 := Aside0.mk (Kd.R_drew hrow)
    have HB2 := HB
    have HKd := Aside0.mk (KeepsOthers.drew W)
    gi_wp2
    refine startIn_ (n := 13) (S := fun w' => w'.cell? ⟨w.heap.size + 1, 3, none⟩ = some v ∧ w'.cell? ax = some (.string t0) ∧ w'.cell? ⟨ax.block, ax.off + 1, none⟩ = some (.string t1)) (ds := [12]) #[false, false, false, false, false, false, false, false, false, false, false, false, false] (by kernel_rfl) rfl rfl (by kernel_rfl) (fun ⟨_, _, h⟩ => h) ⟨(blk_cell BK.out 3).trans rfl, c0.out, c1.out⟩ (fun hHeld => ?_)
    generalize W.drew = W2 at BK BZ BS BN HO2 HB2 HB c0 c1 hHeld HKd ⊢
    refine pure_ (i := 0) (N := some 50) (v := ?_) (a' := ?_) #[true, false, false, false, false, false, false, false, false, false, false, false, false] rfl rfl (by kernel_rfl) (fun _ _ _ h => h) (Or.inl ⟨by rfl, ?_⟩) ?_ ?_
    rotate_left
    · intro w'
      go_simp
      with_reducible rfl
    rotate_left
    · simp only [Act.put, List.setIfInBounds_toArray, List.set_cons_zero, List.set_cons_succ]
      rfl
    refine pure_ (i := 2) (N := some 52) (v := ?_) (a' := ?_) #[true, false, true, false, false, false, false, false, false, false, false, false, false] rfl rfl (by kernel_rfl) (fun _ _ _ h => h) (Or.inl ⟨by rfl, ?_⟩) ?_ ?_
    rotate_left
    · intro w'
      go_simp
      with_reducible rfl
    rotate_left
    · simp only [Act.put, List.setIfInBounds_toArray, List.set_cons_zero, List.set_cons_succ]
      rfl
    refine pure_ (i := 3) (N := some 53) (v := ?_) (a' := ?_) #[true, false, true, true, false, false, false, false, false, false, false, false, false] rfl rfl (by kernel_rfl) (fun _ _ _ h => h) (Or.inl ⟨by rfl, ?_⟩) ?_ ?_
    rotate_left
    · intro w'
      go_simp
      with_reducible rfl
    rotate_left
    · simp only [Act.put, List.setIfInBounds_toArray, List.set_cons_zero, List.set_cons_succ]
      rfl
    refine pure_ (i := 5) (N := some 55) (v := ?_) (a' := ?_) #[true, false, true, true, false, true, false, false, false, false, false, false, false] rfl rfl (by kernel_rfl) (fun _ _ _ h => h) (Or.inl ⟨by rfl, ?_⟩) ?_ ?_
    rotate_left
    · intro w'
      go_simp
      with_reducible rfl
    rotate_left
    · simp only [Act.put, List.setIfInBounds_toArray, List.set_cons_zero, List.set_cons_succ]
      rfl
    refine pure_ (i := 6) (N := some 56) (v := ?_) (a' := ?_) #[true, false, true, true, false, true, true, false, false, false, false, false, false] rfl rfl (by kernel_rfl) (fun _ _ _ h => h) (Or.inl ⟨by rfl, ?_⟩) ?_ ?_
    rotate_left
    · intro w'
      go_simp
      with_reducible rfl
    rotate_left
    · simp only [Act.put, List.setIfInBounds_toArray, List.set_cons_zero, List.set_cons_succ]
      rfl
    refine take_ (i := 1) (N := some 51) (v := ?_) (a' := ?_) #[true, true, true, true, false, true, true, false, false, false, false, false, false] rfl rfl (by kernel_rfl) (fun _ _ _ h => h) (Or.inl ⟨by rfl, ?_⟩) hHeld ?_ ?_
    rotate_left
    · rintro w' ⟨s0, s1, s2⟩
      go_simp
      with_reducible rfl
    rotate_left
    · simp only [Act.put, List.setIfInBounds_toArray, List.set_cons_zero, List.set_cons_succ]
      rfl
    refine take_ (i := 4) (N := some 54) (v := ?_) (a' := ?_) #[true, true, true, true, true, true, true, false, false, false, false, false, false] rfl rfl (by kernel_rfl) (fun _ _ _ h => h) (Or.inl ⟨by rfl, ?_⟩) hHeld ?_ ?_
    rotate_left
    · rintro w' ⟨s0, s1, s2⟩
      go_simp
      with_reducible rfl
    rotate_left
    · simp only [Act.put, List.setIfInBounds_toArray, List.set_cons_zero, List.set_cons_succ]
      rfl
    refine take_ (i := 7) (N := some 57) (v := ?_) (a' := ?_) #[true, true, true, true, true, true, true, true, false, false, false, false, false] rfl rfl (by kernel_rfl) (fun _ _ _ h => h) (Or.inl ⟨by rfl, ?_⟩) hHeld ?_ ?_
    rotate_left
    · rintro w' ⟨s0, s1, s2⟩
      go_simp
      with_reducible rfl
    rotate_left
    · simp only [Act.put, List.setIfInBounds_toArray, List.set_cons_zero, List.set_cons_succ]
      rfl
    refine pure_ (i := 8) (N := some 58) (v := ?_) (a' := ?_) #[true, true, true, true, true, true, true, true, true, false, false, false, false] rfl rfl (by kernel_rfl) (fun _ _ _ h => h) (Or.inl ⟨by rfl, ?_⟩) ?_ ?_
    rotate_left
    · intro w'
      go_simp
      with_reducible rfl
    rotate_left
    · simp only [Act.put, List.setIfInBounds_toArray, List.set_cons_zero, List.set_cons_succ]
      rfl
    refine one_ (i := 9) (N := some 59) #[true, true, true, true, true, true, true, true, true, true, false, false, false] rfl rfl (by kernel_rfl) (by decide) (fun K hK => ?_)
    refine value_ (w1 := ?_) (v := ?_) (by rfl) rfl ?_ ?_
    rotate_left 2
    · go_simp
      constructor
      · rfl
      · rfl
    refine hK.out _ _ ⟨(blk_cell (blk_alloc BK.out _) 3).trans rfl, (World.cell?_alloc_lt _ _ _ (World.block_lt_of_cell? _ _ c0.out)).trans c0.out, (World.cell?_alloc_lt _ _ _ (World.block_lt_of_cell? _ _ c1.out)).trans c1.out⟩ (fun hHeld => ?_)
    clear hK K
    refine norm_ (a' := ?_) ?_ ?_
    rotate_left
    · show Act.put _ (some 59) _ = _
      simp only [Act.put, List.setIfInBounds_toArray, List.set_cons_zero, List.set_cons_succ]
      rfl
    refine one_ (i := 10) (N := some 60) #[true, true, true, true, true, true, true, true, true, true, true, false, false] rfl rfl (by kernel_rfl) (by decide) (fun K hK => ?_)
    refine Kd.R_append_step kPair (w0 := w) w.heap.size (by rfl) (.tmp 51) (.tmp 59) 50 76 (.agg #[(.string ⟨#[]⟩), (.string ⟨#[]⟩)]) 32 rfl Try.underlying50 info76_v rfl (by decide) (by omega) v (pre.map fun k => pairAt l k.1) (t0, t1) [.string t0, .string t1] (fun _ => True) (fun _ => False) rfl rfl ?aP (fun _ hk => hk.elim) ?aF ?aO ?aB ?aS ?aL ?_
    (case aP => exact ⟨[.string t0], [.string t1], rfl, rfl, rfl⟩)
    (case aB => exact HB2.out)
    (case aF => exact (fun _ _ => trivial))
    (case aO => exact HO2.out)
    (case aS => exact HB2.out.size)
    (case aL => simp; omega)
    intro v1 w1 ho hb hg hat
    have n1_ := Aside0.mk (blk_grown BK.out hg (Kd.R_ne HO2.out BK.out (by decide)))
    have n2_ := Aside0.mk (blk_grown BZ.out hg (Kd.R_ne HO2.out BZ.out (by decide)))
    have n3_ := Aside0.mk (blk_grown BS.out hg (Kd.R_ne HO2.out BS.out (by decide)))
    have n4_ := Aside0.mk (blk_grown BN.out hg (Kd.R_ne HO2.out BN.out (by decide)))
    have n5_ := Aside0.mk hb
    have n6_ := Aside0.mk ho
    have n7_ := Aside0.mk (KeepsOthers.of_grownBy hg (fun j o ej hj => by obtain ⟨inner, hin⟩ := Kd.R_own HO2.out; obtain ⟨cells, hcs⟩ := own_typed hin j ej; rw [hcs] at hj; cases hj; rfl))
    have n8_ := Aside0.mk (hb.size)
    clear ho hb hg hat
    obtain ⟨Ao, co, eo⟩ := Kd.R_slice n6_.out
    rw [show (pre.map (fun k => pairAt l k.1) ++ [(t0, t1)]).length = pre.length + 1 by simp] at eo
    subst eo
    refine hK.out _ _ ⟨(blk_cell n1_.out 3).trans rfl, (n5_.out.cell (World.block_lt_of_cell? w _ hw0.out)).trans hw0.out, (n5_.out.cell (World.block_lt_of_cell? w _ hw1.out)).trans hw1.out⟩ (fun hHeld => ?_)
    clear hK K
    refine norm_ (a' := ?_) ?_ ?_
    rotate_left
    · show Act.put _ (some 60) _ = _
      simp only [Act.put, List.setIfInBounds_toArray, List.set_cons_zero, List.set_cons_succ]
      rfl
    refine pure_ (i := 11) (N := some 61) (v := ?_) (a' := ?_) #[true, true, true, true, true, true, true, true, true, true, true, true, false] rfl rfl (by kernel_rfl) (fun _ _ _ h => h) (Or.inl ⟨by rfl, ?_⟩) ?_ ?_
    rotate_left
    · intro w'
      go_simp
      with_reducible rfl
    rotate_left
    · simp only [Act.put, List.setIfInBounds_toArray, List.set_cons_zero, List.set_cons_succ]
      rfl
    refine last_ (i := 12) (N := none) #[true, true, true, true, true, true, true, true, true, true, true, true, true] rfl rfl (by kernel_rfl) (by decide) (fun K hK => ?_)
    have hs40 : w1.cell? ⟨w.heap.size + 1, 3, none⟩ = some v := (blk_cell n1_.out 3).trans rfl
    have hfs40 := blk_frozen n1_.out 3
    refine skip_ (w1 := ?_) (by rfl) rfl ?_ ?_
    rotate_left
    · go_simp
      rfl
    refine hK.out _ _ ?_
    clear hK K
    refine done_ (by kernel_rfl) ?_
    have hKF : KeepsOthers W (w1.setCell ⟨w.heap.size + 1, 3, none⟩ (.slice Ao (pre.length + 1) co)) := (HKd.out.trans n7_.out).trans (KeepsOthers.setCell _ _ _)
    refine ⟨hKF.from _, ⟨(blk_far n3_.out (by simp) _).trans hs.symm, (blk_far n4_.out (by simp) _).trans hn.symm⟩, ⟨⟨_, (blk_set n1_.out 3 _).trans rfl, ?_⟩, blk_far n2_.out (by simp) _, blk_far n3_.out (by simp) _, blk_far n4_.out (by simp) _⟩, n5_.out.setCell (p := ⟨w.heap.size + 1, 3, none⟩) (by simp) _⟩
    rw [List.map_append, List.map_singleton, hpx.out]
    exact Kd.R_mono (Kd.R_far (p := ⟨w.heap.size + 1, 3, none⟩) (Kd.R_types n6_.out n1_.out (by decide)) (fun _ hk => hk.2) _) (fun _ hk => trivial)
  case done =>
    rintro D ys W hD rfl ⟨⟨⟨v, hv, hrow⟩, hz, hs, hn⟩, hB⟩ hK
    have hc10 : W.cell? ⟨w.heap.size + 1, 0, none⟩ = some (.int .i64 3) := (blk_cell hv 0).trans rfl
    have hc11 : W.cell? ⟨w.heap.size + 1, 1, none⟩ = some (.string ⟨#[]⟩) := (blk_cell hv 1).trans rfl
    have hc12 : W.cell? ⟨w.heap.size + 1, 2, none⟩ = some (.slice none 0 0) := (blk_cell hv 2).trans rfl
    have hc13 : W.cell? ⟨w.heap.size + 1, 3, none⟩ = some v := (blk_cell hv 3).trans rfl
    have hc00 : W.cell? ⟨w.heap.size, 0, none⟩ = some (.int .i64 0) := (blk_cell hz 0).trans rfl
    have hc01 : W.cell? ⟨w.heap.size, 1, none⟩ = some (.string ⟨#[]⟩) := (blk_cell hz 1).trans rfl
    have hc02 : W.cell? ⟨w.heap.size, 2, none⟩ = some (.slice none 0 0) := (blk_cell hz 2).trans rfl
    have hc03 : W.cell? ⟨w.heap.size, 3, none⟩ = some (.slice none 0 0) := (blk_cell hz 3).trans rfl
    have hf0 := blk_frozen hz 0
    have hf1 := blk_frozen hz 1
    have hf2 := blk_frozen hz 2
    have hf3 := blk_frozen hz 3
    obtain ⟨Av, cv, ev⟩ := Kd.R_slice hrow
    rw [show ((List.finRange m).map (fun k => pairAt l k.1)).length = m by simp] at ev
    subst ev
    gi_wp2
    have hKO := ((((KeepsOthers.setCell W ⟨w.heap.size, 0, none⟩ (.int .i64 3)).trans (KeepsOthers.setCell _ ⟨w.heap.size, 1, none⟩ (.string ⟨#[]⟩))).trans (KeepsOthers.setCell _ ⟨w.heap.size, 2, none⟩ (.slice none 0 0))).trans (KeepsOthers.setCell _ ⟨w.heap.size, 3, none⟩ (.slice Av m cv)))
    have hz1 := (blk_set (blk_set (blk_set (blk_set hz 0 (.int .i64 3)) 1 (.string ⟨#[]⟩)) 2 (.slice none 0 0)) 3 (.slice Av m cv)).trans (show _ = some (Obj.cells #[.int .i64 3, .string ⟨#[]⟩, .slice none 0 0, .slice Av m cv] 52 (0, 0)) from rfl)
    have hB1 : Below w.heap.size w ((((W.setCell ⟨w.heap.size, 0, none⟩ (.int .i64 3)).setCell ⟨w.heap.size, 1, none⟩ (.string ⟨#[]⟩)).setCell ⟨w.heap.size, 2, none⟩ (.slice none 0 0)).setCell ⟨w.heap.size, 3, none⟩ (.slice Av m cv)) := (((hB.setCell (p := ⟨w.heap.size, 0, none⟩) (Nat.le_refl _) _).setCell (p := ⟨w.heap.size, 1, none⟩) (Nat.le_refl _) _).setCell (p := ⟨w.heap.size, 2, none⟩) (Nat.le_refl _) _).setCell (p := ⟨w.heap.size, 3, none⟩) (Nat.le_refl _) _
    have hR1 : Kd.R kPair 76 ((((W.setCell ⟨w.heap.size, 0, none⟩ (.int .i64 3)).setCell ⟨w.heap.size, 1, none⟩ (.string ⟨#[]⟩)).setCell ⟨w.heap.size, 2, none⟩ (.slice none 0 0)).setCell ⟨w.heap.size, 3, none⟩ (.slice Av m cv)) w.heap.size (fun _ => True) (.slice Av m cv) ((List.finRange m).map fun k => pairAt l k.1) := by
      refine Kd.R_set (Kd.R_set (Kd.R_set (Kd.R_set hrow hz (by decide) 0 _) (blk_set hz 0 _) (by decide) 1 _) (blk_set (blk_set hz 0 _) 1 _) (by decide) 2 _) (blk_set (blk_set (blk_set hz 0 _) 1 _) 2 _) (by decide) 3 _
    have hK1 := hKO.same D _ hK rfl
    generalize ((((W.setCell ⟨w.heap.size, 0, none⟩ (.int .i64 3)).setCell ⟨w.heap.size, 1, none⟩ (.string ⟨#[]⟩)).setCell ⟨w.heap.size, 2, none⟩ (.slice none 0 0)).setCell ⟨w.heap.size, 3, none⟩ (.slice Av m cv)) = W9 at hK1 hz1 hB1 hR1 ⊢
    have hz2 : (W9.putObj D (.deferred none)).heap[w.heap.size]? = _ := (World.putObj_heap_other (by omega)).trans hz1
    refine ⟨by simp, .inl ⟨_, _, rfl, run_takeDeferred hK1, ?_⟩⟩
    refine ⟨_, results_ct rfl _ _ w.heap.size 52 _ (0, 0) _ rfl hz2 Try.underlying52 rfl (by kernel_rfl), .slice Av m cv, rfl, ?_, ?_⟩
    · exact R_own hR1 (grownBy_putObj' W9 D _) (fun r e => by cases e; exact ⟨_, hK1, rfl⟩)
    · exact hB1.trans (belowK_b (w := w) (Nat.le_refl _) W9 D _ _ (by omega) hK1 rfl rfl)
  case stop =>
    rintro D c pre W _ _ h _
    exact h.elim

/-- **value.Of at pairs**, by the plain calculus. -/
theorem ofPairs_any (l : List ByteArray) (h0 : 0 < l.length) (he : l.length % 2 = 0) (hl : l.length ≤ 1000000) (A : Option Addr) (c : Nat) (hc : l.length ≤ c) (w : World) (hr : Kd.C Kd.string w A l.length l) :
    Calls Try.prog 44 #[.int .i64 3, .slice A l.length c] w fun e w' => ∃ v, e = .returned (.tuple #[.agg #[.int .i64 3, .string ⟨#[]⟩, .slice none 0 0, v], .bool true]) ∧
      Kd.R kPair 76 w' w.heap.size (fun _ => True) v ((List.range (l.length / 2)).map (pairAt l)) ∧ Below w.heap.size w w' := by
  obtain ⟨ad, rfl, _⟩ := Kd.at_string hr 0 (by omega) (by omega)
  obtain ⟨m, hm⟩ : ∃ m, l.length = 2 * m := ⟨l.length / 2, by omega⟩
  have hm2 : l.length / 2 = m := by omega
  have hcell : ∀ j, j < 2 * m → w.cell? (ad.add j) = some (.string (l.getD j ByteArray.empty)) := fun j hj => by
    obtain ⟨ad', e1, e2⟩ := Kd.at_string hr (j : Int) (by omega) (by omega)
    injection e1 with e1
    subst e1
    simpa [rdOf] using e2
  have h := callsIn_wide.1 (ofPairs_in m (by omega) (by omega) ad c (by omega) l w hcell)
  rw [hm2, hm]
  refine h.mono fun e w' ⟨v, h1, h2, h3⟩ => ⟨v, h1, ?_, h3⟩
  have e : (List.range m).map (pairAt l) = (List.finRange m).map fun k => pairAt l k.1 := by
    apply List.ext_getElem
    · simp
    · intro i h1 h2; simp
  rw [e]
  exact h2

end Go.Proofs.Ytjjmfmlgemdjkaa

