/- The walk of the law CharsLaws. -/
import Derived.Test.YtmondgamackcgaaWalk2B
import Derived.Deep.RegionHeld3
namespace Go.Proofs.Ytmondgamackcgaa
open Go.RowKit

theorem below_alloc_ {w w1 : World} (h : Below w.heap.size w w1) (o : Obj) : Below w.heap.size w (w1.alloc o) := h.alloc h.size o
theorem union2 (f g u : Nat → Bool) (hu : ∀ n, n < 256 → (f n || g n) = u n) (B : Nat) (w : World) (hB : B = w.heap.size) :
    Calls Try.prog 24 #[.slice (some ⟨B, 0, none⟩) 2 2] (w.alloc (.cells #[.int .u64 (wd f 0 : Nat), .int .u64 (wd f 1 : Nat), .int .u64 (wd f 2 : Nat), .int .u64 (wd f 3 : Nat), .int .u64 (wd g 0 : Nat), .int .u64 (wd g 1 : Nat), .int .u64 (wd g 2 : Nat), .int .u64 (wd g 3 : Nat)] 25)) fun e w' => e = .returned (setV u) ∧ Below (w.alloc (.cells #[.int .u64 (wd f 0 : Nat), .int .u64 (wd f 1 : Nat), .int .u64 (wd f 2 : Nat), .int .u64 (wd f 3 : Nat), .int .u64 (wd g 0 : Nat), .int .u64 (wd g 1 : Nat), .int .u64 (wd g 2 : Nat), .int .u64 (wd g 3 : Nat)] 25)).heap.size (w.alloc (.cells #[.int .u64 (wd f 0 : Nat), .int .u64 (wd f 1 : Nat), .int .u64 (wd f 2 : Nat), .int .u64 (wd f 3 : Nat), .int .u64 (wd g 0 : Nat), .int .u64 (wd g 1 : Nat), .int .u64 (wd g 2 : Nat), .int .u64 (wd g 3 : Nat)] 25)) w' := by
  subst hB
  have h := union_any [f, g] w.heap.size 2 (w.alloc (.cells (rowOf [f, g]).toArray 25)) (by simp) (by simp) (fun j i hj hi => rowOf_new w [f, g] j i hj hi)
  rw [setV_congr (f := anyOf [f, g]) (g := u) fun n hn => by rw [← hu n hn]; unfold anyOf; simp] at h
  exact h

theorem bytesIn_list (f : Nat → Bool) (n : Nat) (hn : n < 256) : bytesIn (listTo f 256) n = f n := by
  rw [Bool.eq_iff_iff]
  unfold bytesIn listTo
  simp only [List.any_eq_true, List.mem_map, List.mem_filter, List.mem_range, beq_iff_eq]
  constructor
  · rintro ⟨b, ⟨k, ⟨hk, hf⟩, rfl⟩, hb⟩
    rw [UInt8.toNat_ofNat'] at hb
    obtain rfl : k = n := by omega
    exact hf
  · intro hf
    exact ⟨UInt8.ofNat n, ⟨n, ⟨hn, hf⟩, rfl⟩, by rw [UInt8.toNat_ofNat']; omega⟩

theorem len_count (f : Nat → Bool) (k : Nat) : (listTo f k).length = ((List.range k).filter f).length := by unfold listTo; rw [List.length_map]
theorem counts (f g : Nat → Bool) : ∀ k, ((List.range k).filter fun n => f n || g n).length + ((List.range k).filter fun n => f n && g n).length = ((List.range k).filter f).length + ((List.range k).filter g).length
  | 0 => rfl
  | k + 1 => by
    have ih := counts f g k
    simp only [List.range_succ, List.filter_append, List.length_append]
    cases hf : f k <;> cases hg : g k <;> simp [hf, hg] <;> omega

set_option maxRecDepth 100000 in
set_option maxHeartbeats 8000000 in
theorem walkCharsLaws (f g : Nat → Bool) (w : World) :
    Calls Try.prog 6 #[setV f, setV g] w fun e w' => e = .returned (.bool true) ∧ Below w.heap.size w w' := by
  have cA := awake2_any
  have cU := union2 f g (fun n => f n || g n) (fun n _ => rfl)
  have cV := union2 g f (fun n => f n || g n) (fun n _ => Bool.or_comm _ _)
  have cW := union2 (fun n => f n && !g n) g (fun n => f n || g n) (fun n _ => by cases f n <;> cases g n <;> rfl)
  have cN := not_any f
  have cNN : ∀ w, Calls Try.prog 26 #[setV fun n => !f n] w fun e w' => e = .returned (setV f) ∧ Below w.heap.size w w' := fun w => by
    have h := not_any (fun n => !f n) w
    rw [setV_congr (f := fun n => !!f n) (g := f) fun n _ => by simp] at h
    exact h
  have cNU := not_any (fun n => f n || g n)
  have cNG := not_any g
  have cM : ∀ w, Calls Try.prog 25 #[setV fun n => !f n, setV g] w fun e w' => e = .returned (setV fun n => !(f n || g n)) ∧ Below w.heap.size w w' := fun w => by
    have h := minus_any (fun n => !f n) g w
    rw [setV_congr (f := fun n => !f n && !g n) (g := fun n => !(f n || g n)) fun n _ => by simp] at h
    exact h
  have cD := minus_any f g
  have cZ : ∀ w, Calls Try.prog 25 #[setV f, setV f] w fun e w' => e = .returned (.agg #[.int .u64 0, .int .u64 0, .int .u64 0, .int .u64 0]) ∧ Below w.heap.size w w' := fun w => by
    have h := minus_any f f w
    unfold setV at h ⊢
    rw [wordsA_congr (f := fun n => f n && !f n) (g := fun _ => false) fun n _ => by simp, wordsA_none] at h
    exact h
  have cI : ∀ w, Calls Try.prog 25 #[setV f, setV fun n => !g n] w fun e w' => e = .returned (setV fun n => f n && g n) ∧ Below w.heap.size w w' := fun w => by
    have h := minus_any f (fun n => !g n) w
    rw [setV_congr (f := fun n => f n && !!g n) (g := fun n => f n && g n) fun n _ => by simp] at h
    exact h
  have cT := list_any f
  have cO : ∀ w, Calls Try.prog 21 #[.string ⟨(listTo f 256).toArray⟩] w fun e w' => e = .returned (setV f) ∧ Below w.heap.size w w' := fun w => by
    have hl := listTo_length f 256
    have h := of_any (⟨(listTo f 256).toArray⟩ : ByteArray) (by show (listTo f 256).toArray.size ≤ _; rw [List.size_toArray]; omega) w
    change Calls _ _ _ w fun e w' => e = .returned (setV (bytesIn (listTo f 256))) ∧ Below w.heap.size w w' at h
    rw [setV_congr (f := bytesIn (listTo f 256)) (g := f) (bytesIn_list f)] at h
    exact h
  have lU := len_any (fun n => f n || g n)
  have lI := len_any (fun n => f n && g n)
  have lF := len_any f
  have lG := len_any g
  have hcount := counts f g 256
  rw [← len_count, ← len_count, ← len_count, ← len_count] at hcount
  have b1 := listTo_length (fun n => f n || g n) 256
  have b2 := listTo_length (fun n => f n && g n) 256
  have b3 := listTo_length f 256
  have b4 := listTo_length g 256
  have q : ∀ (h : Nat → Bool) w, (Op.equalIn 10000 25 (setV h) (setV h)).run Try.prog w = .ok true w := fun h w => by
    unfold setV wordsA
    rw [eqWords]
    simp
  have q0 := eqWords 0 0 0 0 0 0 0 0
  generalize (listTo (fun n => f n || g n) 256).length = n1 at lU hcount b1
  generalize (listTo (fun n => f n && g n) 256).length = n2 at lI hcount b2
  generalize (listTo f 256).length = n3 at lF hcount b3
  generalize (listTo g 256).length = n4 at lG hcount b4
  have hsum : Hid ((IntKind.i64.wrap ((n1 : Int) + (n2 : Int)) == IntKind.i64.wrap ((n3 : Int) + (n4 : Int))) = true) := Lib.hid (by rw [show (n1 : Int) + (n2 : Int) = (n3 : Int) + (n4 : Int) from by omega, beq_iff_eq])
  generalize (⟨(listTo f 256).toArray⟩ : ByteArray) = L at cT cO
  clear hcount
  unfold setV wordsA at cU cV cW cN cNN cNU cNG cM cD cZ cI cT cO lU lI lF lG q ⊢
  go_enter Try.func6, Try.ntmps6
  go_wp2_with fail
  refine (cA _).mono ?_
  rintro e w1 ⟨rfl, hb1⟩
  have hG := first_block hb1
  rw [World.size_alloc] at hG
  have hF := block_below (heap_alloc_new w (.cells #[.int .u64 (wd f 0 : Nat), .int .u64 (wd f 1 : Nat), .int .u64 (wd f 2 : Nat), .int .u64 (wd f 3 : Nat)] 23)) (below_2 hb1)
  obtain ⟨f0, f1, f2, f3⟩ := cells4_ever (f := f) hF
  obtain ⟨g0, g1, g2, g3⟩ := cells4_ever (f := g) hG
  have h0 : Below w.heap.size w w1 := below_2 (below_2 hb1)
  have hr := Below.refl w1.heap.size w1
  have hs := hr.alloc (Nat.le_refl _) (.cells #[.int .u64 (wd f 0 : Nat), .int .u64 (wd f 1 : Nat), .int .u64 (wd f 2 : Nat), .int .u64 (wd f 3 : Nat)] 25)
  clear hF hG hb1
  go_wp2_with fail
  refine (cU _ _ (by simp)).mono ?_
  rintro e w2 ⟨rfl, hb2⟩
  replace hb2 := below_2 hb2
  have hY := block_below (heap_alloc_new (w1.alloc (.cells #[.int .u64 (wd f 0 : Nat), .int .u64 (wd f 1 : Nat), .int .u64 (wd f 2 : Nat), .int .u64 (wd f 3 : Nat)] 25)) (.cells #[.int .u64 (wd g 0 : Nat), .int .u64 (wd g 1 : Nat), .int .u64 (wd g 2 : Nat), .int .u64 (wd g 3 : Nat)] 25)) hb2
  rw [World.size_alloc] at hY
  have hX := block_below (heap_alloc_new w1 (.cells #[.int .u64 (wd f 0 : Nat), .int .u64 (wd f 1 : Nat), .int .u64 (wd f 2 : Nat), .int .u64 (wd f 3 : Nat)] 25)) (below_2 hb2)
  obtain ⟨x0, x1, x2, x3⟩ := cells4_ever (f := f) hX
  obtain ⟨y0, y1, y2, y3⟩ := cells4_ever (f := g) hY
  have h2 := below_after h0 (below_2 (below_2 hb2))
  clear hb2 hr hs f0 f1 f2 f3 g0 g1 g2 g3 x0 x1 x2 x3 y0 y1 y2 y3 h0 cA cU
  go_wp2_with fail
  simp only [List.append_eq, List.cons_append, List.nil_append]
  obtain ⟨wb, hwb⟩ : ∃ wb : World, wb = w2.alloc (.cells (wordsA fun n => f n || g n) 25) := ⟨_, rfl⟩
  have hwb0 : Below w2.heap.size w2 wb := by rw [hwb]; exact (Below.refl _ _).alloc (Nat.le_refl _) _
  have hU : wb.heap[w2.heap.size]? = some (.cells (wordsA fun n => f n || g n) 25 (0, 0)) := by rw [hwb]; exact heap_alloc_new _ _
  have Hall := Lib.hid (below_after h2 hwb0)
  obtain ⟨x0, x1, x2, x3⟩ := cells4_ever (f := f) (block_below hX hwb0)
  obtain ⟨y0, y1, y2, y3⟩ := cells4_ever (f := g) (block_below hY hwb0)
  obtain ⟨u0, u1, u2, u3⟩ := cells4_ever (f := fun n => f n || g n) hU
  unfold wordsA at hwb
  rw [← hwb]
  clear hwb hX hY hU h2 hwb0
  go_region_held3 (fun w' => Below wb.heap.size wb w') (first | with_reducible exact (Below.refl wb.heap.size wb).drew | (with_reducible refine below_alloc_ ?_ _; with_reducible assumption) | (with_reducible exact below_after (by assumption) hx) | with_reducible assumption) (first | (go_at_call 26; (first | (with_reducible refine (cN _).mono ?_) | (with_reducible refine (cNN _).mono ?_) | (with_reducible refine (cNU _).mono ?_) | (with_reducible refine (cNG _).mono ?_)); rintro e wx ⟨rfl, hx⟩) | (go_at_call 25; (first | (with_reducible refine (cM _).mono ?_) | (with_reducible refine (cD _).mono ?_) | (with_reducible refine (cZ _).mono ?_) | (with_reducible refine (cI _).mono ?_)); rintro e wx ⟨rfl, hx⟩) | (go_at_call 21; (first | (with_reducible refine (cO _).mono ?_)); rintro e wx ⟨rfl, hx⟩) | (go_at_call 24; (first | (with_reducible refine (cV _ _ (by simp)).mono ?_) | (with_reducible refine (cW _ _ (by simp)).mono ?_)); rintro e wx ⟨rfl, hx⟩) | (go_at_call 19; (with_reducible refine (cT _).mono ?_); rintro e wx ⟨rfl, hx⟩) | (go_at_call 20; (first | (with_reducible refine (lU _).mono ?_) | (with_reducible refine (lI _).mono ?_) | (with_reducible refine (lF _).mono ?_) | (with_reducible refine (lG _).mono ?_)); rintro e wx ⟨rfl, hx⟩))
  go_wp2
  go_ret
  refine ⟨?_, below_after Hall.out (by assumption)⟩
  show Ending.returned (Value.bool (IntKind.i64.wrap ((n1 : Int) + (n2 : Int)) == IntKind.i64.wrap ((n3 : Int) + (n4 : Int)))) = _
  rw [hsum.out]
end Go.Proofs.Ytmondgamackcgaa
