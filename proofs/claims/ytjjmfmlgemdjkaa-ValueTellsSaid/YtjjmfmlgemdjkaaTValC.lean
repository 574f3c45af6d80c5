/- slices.Clone of texts; value.Of at the other kinds; value.Valid's library calls. -/
import Derived.Test.YtjjmfmlgemdjkaaTValB
import Derived.Test.YtjjmfmlgemdjkaaTUtfC
import Derived.Test.YtjjmfmlgemdjkaaTUtfD
import Derived.Deep.Draws
import Derived.BigQuiet
import Derived.Lib.LazyBuf
namespace Go.Proofs.Ytjjmfmlgemdjkaa
open Go.RowKit Go.Shelf Go.Proofs.YtjjmfmlgemdjkaaW.PrintWords Go.Proofs.YtjjmfmlgemdjkaaW.PrintMore Go.Proofs.YtjjmfmlgemdjkaaW.PrintLast

set_option maxRecDepth 100000 in
set_option maxHeartbeats 2000000 in
theorem clone_any (l : List ByteArray) (hl : l.length ≤ 1000000) (A : Option Addr) (c : Nat) (hc : l.length ≤ c) (w : World) (hr : Kd.C Kd.string w A l.length l) :
    Calls Try.prog 70 #[.slice A l.length c] w fun e w' => ∃ v, e = .returned v ∧ Kd.R Kd.string 9 w' w.heap.size (fun _ => True) v l ∧ Below w.heap.size w w' := by
  cases A with
  | none =>
    have h0 : l = [] := by
      cases l with
      | nil => rfl
      | cons x xs => obtain ⟨ad, e, _⟩ := Kd.at_string hr 0 (by omega) (by simp); cases e
    subst h0
    have q49 := run_eql_slice_nil (P := Try.prog) w 49 9 none 0 c Try.underlying49
    rw [show (none : Option Addr).isNone = true from rfl] at q49
    go_enter Try.func70, Try.ntmps70
    go_wp2
    go_ret
    exact ⟨_, rfl, Kd.R_nil _ _ _ _ _, Below.refl _ _⟩
  | some ad =>
    have HR := Aside0.mk hr
    have HC := Aside0.mk hc
    have HL := Aside0.mk hl
    clear hr hc hl
    have q49 := run_eql_slice_nil (P := Try.prog) w 49 9 (some ad) l.length c Try.underlying49
    rw [show (some ad).isNone = false from rfl] at q49
    go_enter Try.func70, Try.ntmps70
    go_wp2_with (first | ((with_reducible refine gate_dst (N := 5) rfl ?_); refine Kd.R_lit Kd.string _ 9 ?hg (N := 5) ?hd (xs := ([] : List ByteArray)) (inner := []) (ok := fun _ => True) (okp := fun _ => True) ?hr ?hp (fun _ hk => hk) trivial (Below.refl _ _) (Nat.le_refl _) (by simp) ?_; (case hd => rfl); (case hg => rfl); (case hr => first | (go_simp; done) | (go_simp; rfl)); (case hp => exact (Reps.none _ _)); intro v1 w1 ho1 hb1 hg_ hnew_; clear hg_ hnew_; have HO := Aside0.mk ho1; have HB := Aside0.mk hb1; clear ho1 hb1) | ((with_reducible refine gate_builtin (b := .append) (xs := #[.tmp 5, .tmp 6]) rfl ?_); at_builtin; refine Kd.R_append_rows Kd.string (w0 := w) w.heap.size rfl (.tmp 5) (.tmp 6) 49 9 (.string ⟨#[]⟩) 16 rfl Try.underlying49 info9_v rfl (by decide) (by omega) v1 [] l _ _ _ (fun _ => True) (fun _ => False) rfl rfl ?aO ?aR (fun _ _ h => h) (fun _ h => h.elim) ?aF ?aB ?aS ?aL ?_; (case aR => exact Kd.C_below HR.out HB.out); (case aB => exact HB.out); (case aF => exact (fun _ _ => trivial)); (case aO => exact HO.out); (case aS => exact HB.out.size); (case aL => have := HL.out; simp; omega); intro v2 w2 ho2 hb2 hg hat; have HO2 := Aside0.mk ho2; have HB2 := Aside0.mk hb2; clear ho2 hb2 hg hat))
    go_ret
    exact ⟨_, rfl, by simpa using HO2.out, HB2.out⟩

/-- **value.Of, where there is no such value.** -/
def NoneOf (a0 : Int) (n : Nat) : Prop := ¬ (a0 = 1 ∧ n = 1) ∧ ¬ (a0 = 2 ∧ 0 < n) ∧ ¬ (a0 = 3 ∧ 0 < n ∧ n % 2 = 0)

set_option maxRecDepth 100000 in
set_option maxHeartbeats 2000000 in
theorem ofNone_any (a0 : Int) (n : Nat) (hn : n ≤ 1000000) (h : NoneOf a0 n) (A : Option Addr) (c : Nat) (w : World) :
    Calls Try.prog 44 #[.int .i64 a0, .slice A n c] w fun e w' => e = .returned (.tuple #[.agg #[.int .i64 0, .string ⟨#[]⟩, .slice none 0 0, .slice none 0 0], .bool false]) ∧ Below w.heap.size w w' := by
  rcases (show (a0 = 1 ∧ n ≠ 1) ∨ (a0 = 2 ∧ n = 0) ∨ (a0 = 3 ∧ n = 0) ∨ (a0 = 3 ∧ 0 < n ∧ n % 2 = 1) ∨ (a0 ≠ 1 ∧ a0 ≠ 2 ∧ a0 ≠ 3) from by unfold NoneOf at h; omega) with ⟨rfl, h1⟩ | ⟨rfl, rfl⟩ | ⟨rfl, rfl⟩ | ⟨rfl, h1, h2⟩ | ⟨h1, h2, h3⟩
  · clear h
    have e1 : ((n : Int) = 1) = False := by simp; omega
    go_enter Try.func44, Try.ntmps44
    go_wp2
    refine bodyPost_ret (results_ct rfl _ _ w.heap.size 52 #[.int .i64 0, .string ⟨#[]⟩, .slice none 0 0, .slice none 0 0] (0, 0) _ rfl (blk_alloc (blk_new _ _) _) Try.underlying52 rfl (by kernel_rfl)) rfl ?_
    exact ⟨rfl, ((Below.refl _ w).alloc (Nat.le_refl _) _).alloc (by simp) _⟩
  · clear h
    go_enter Try.func44, Try.ntmps44
    go_wp2
    refine bodyPost_ret (results_ct rfl _ _ w.heap.size 52 #[.int .i64 0, .string ⟨#[]⟩, .slice none 0 0, .slice none 0 0] (0, 0) _ rfl (blk_alloc (blk_new _ _) _) Try.underlying52 rfl (by kernel_rfl)) rfl ?_
    exact ⟨rfl, ((Below.refl _ w).alloc (Nat.le_refl _) _).alloc (by simp) _⟩
  · clear h
    go_enter Try.func44, Try.ntmps44
    go_wp2
    refine bodyPost_ret (results_ct rfl _ _ w.heap.size 52 #[.int .i64 0, .string ⟨#[]⟩, .slice none 0 0, .slice none 0 0] (0, 0) _ rfl (blk_alloc (blk_new _ _) _) Try.underlying52 rfl (by kernel_rfl)) rfl ?_
    exact ⟨rfl, ((Below.refl _ w).alloc (Nat.le_refl _) _).alloc (by simp) _⟩
  · clear h
    have e1 : (0 : Int) < (n : Int) := by omega
    have e2 : (n : Int).tmod 2 = 1 := by rw [Int.tmod_eq_emod_of_nonneg (by omega)]; omega
    have e3 : (n : Int) % 2 = 1 := by omega
    go_enter Try.func44, Try.ntmps44
    go_wp2
    refine bodyPost_ret (results_ct rfl _ _ w.heap.size 52 #[.int .i64 0, .string ⟨#[]⟩, .slice none 0 0, .slice none 0 0] (0, 0) _ rfl (blk_alloc (blk_new _ _) _) Try.underlying52 rfl (by kernel_rfl)) rfl ?_
    exact ⟨rfl, ((Below.refl _ w).alloc (Nat.le_refl _) _).alloc (by simp) _⟩
  · clear h
    have e1 : (a0 = 1) = False := eq_false h1
    have e2 : (a0 = 2) = False := eq_false h2
    have e3 : (a0 = 3) = False := eq_false h3
    have b1 : (a0 == 1) = false := by simpa using h1
    have b2 : (a0 == 2) = false := by simpa using h2
    have b3 : (a0 == 3) = false := by simpa using h3
    go_enter Try.func44, Try.ntmps44
    go_wp2
    refine bodyPost_ret (results_ct rfl _ _ w.heap.size 52 #[.int .i64 0, .string ⟨#[]⟩, .slice none 0 0, .slice none 0 0] (0, 0) _ rfl (blk_alloc (blk_new _ _) _) Try.underlying52 rfl (by kernel_rfl)) rfl ?_
    exact ⟨rfl, ((Below.refl _ w).alloc (Nat.le_refl _) _).alloc (by simp) _⟩

set_option maxRecDepth 100000 in
set_option maxHeartbeats 2000000 in
/-- **value.Of at one text.** -/
theorem ofText_any (t : ByteArray) (A : Option Addr) (c : Nat) (w : World) (hr : Kd.C Kd.string w A 1 [t]) :
    Calls Try.prog 44 #[.int .i64 1, .slice A 1 c] w fun e w' => e = .returned (.tuple #[.agg #[.int .i64 1, .string t, .slice none 0 0, .slice none 0 0], .bool true]) ∧ Below w.heap.size w w' := by
  obtain ⟨ad, rfl, h0⟩ := Kd.at_string hr 0 (by omega) (by omega)
  have h1 : w.cell? ad = some (.string t) := by simpa [rdOf, Addr.add] using h0
  have hlt := World.block_lt_of_cell? _ _ h1
  have h2 : ∀ o o' : Obj, ((w.alloc o).alloc o').cell? ad = some (.string t) := fun o o' => (World.cell?_alloc_lt _ _ _ (by simp; omega)).trans ((World.cell?_alloc_lt _ _ _ hlt).trans h1)
  clear h0 hr hlt
  go_enter Try.func44, Try.ntmps44
  go_wp2
  refine bodyPost_ret (results_ct rfl _ _ w.heap.size 52 #[.int .i64 1, .string t, .slice none 0 0, .slice none 0 0] (0, 0) _ rfl (blk_alloc (blk_new _ _) _) Try.underlying52 rfl (by kernel_rfl)) rfl ?_
  exact ⟨rfl, ((Below.refl _ w).alloc (Nat.le_refl _) _).alloc (by simp) _⟩

set_option maxRecDepth 100000 in
set_option maxHeartbeats 2000000 in
/-- **value.Of at a list.** -/
theorem ofList_any (l : List ByteArray) (hl : l.length ≤ 1000000) (h0 : 0 < l.length) (A : Option Addr) (c : Nat) (hc : l.length ≤ c) (w : World) (hr : Kd.C Kd.string w A l.length l) :
    Calls Try.prog 44 #[.int .i64 2, .slice A l.length c] w fun e w' => ∃ v, e = .returned (.tuple #[.agg #[.int .i64 2, .string ⟨#[]⟩, v, .slice none 0 0], .bool true]) ∧ Kd.R Kd.string 9 w' w.heap.size (fun _ => True) v l ∧ Below w.heap.size w w' := by
  have HR := Aside0.mk hr
  have HC := Aside0.mk hc
  have HL := Aside0.mk hl
  have e1 : (0 : Int) < (l.length : Int) := by omega
  clear hr hc hl
  go_enter Try.func44, Try.ntmps44
  go_wp2_with fail
  refine (clone_any l HL.out A c HC.out _ (Kd.C_alloc (Kd.C_alloc HR.out _) _)).mono ?_
  rintro e w2 ⟨v, rfl, hv, hb⟩
  have b0 := blk_new w (.cells #[.int .i64 0, .string ⟨#[]⟩, .slice none 0 0, .slice none 0 0] 52)
  have b1 := blk_new (w.alloc (.cells #[.int .i64 0, .string ⟨#[]⟩, .slice none 0 0, .slice none 0 0] 52)) (.cells #[.int .i64 2, .string ⟨#[]⟩, .slice none 0 0, .slice none 0 0] 52)
  simp only [World.size_alloc] at b1
  have hz := blk_below (blk_alloc b0 (.cells #[.int .i64 2, .string ⟨#[]⟩, .slice none 0 0, .slice none 0 0] 52)) hb
  have hk := blk_below b1 hb
  have hB : Below w.heap.size w w2 := (((Below.refl _ w).alloc (Nat.le_refl _) _).alloc (by simp) _).trans (hb.mono (by simp; omega))
  have hv2 := Kd.R_lower hv (show w.heap.size ≤ _ by simp; omega)
  clear hv hb b0 b1
  obtain ⟨Av, cv, rfl⟩ := Kd.R_slice hv2
  have hc10 : w2.cell? ⟨w.heap.size + 1, 0, none⟩ = some (.int .i64 2) := (blk_cell hk 0).trans rfl
  have hc11 : w2.cell? ⟨w.heap.size + 1, 1, none⟩ = some (.string ⟨#[]⟩) := (blk_cell hk 1).trans rfl
  have hc12 : w2.cell? ⟨w.heap.size + 1, 2, none⟩ = some (.slice none 0 0) := (blk_cell hk 2).trans rfl
  have hc13 : w2.cell? ⟨w.heap.size + 1, 3, none⟩ = some (.slice none 0 0) := (blk_cell hk 3).trans rfl
  have hc00 : w2.cell? ⟨w.heap.size, 0, none⟩ = some (.int .i64 0) := (blk_cell hz 0).trans rfl
  have hc01 : w2.cell? ⟨w.heap.size, 1, none⟩ = some (.string ⟨#[]⟩) := (blk_cell hz 1).trans rfl
  have hc02 : w2.cell? ⟨w.heap.size, 2, none⟩ = some (.slice none 0 0) := (blk_cell hz 2).trans rfl
  have hc03 : w2.cell? ⟨w.heap.size, 3, none⟩ = some (.slice none 0 0) := (blk_cell hz 3).trans rfl
  have hf0 := blk_frozen hz 0
  have hf1 := blk_frozen hz 1
  have hf2 := blk_frozen hz 2
  have hf3 := blk_frozen hz 3
  have hg2 := blk_frozen hk 2
  go_wp2
  have z1 := blk_far hz (p := ⟨w.heap.size + 1, 2, none⟩) (by simp) (.slice Av l.length cv)
  have z2 := (blk_set (blk_set (blk_set (blk_set z1 0 (.int .i64 2)) 1 (.string ⟨#[]⟩)) 2 (.slice Av l.length cv)) 3 (.slice none 0 0)).trans (show _ = some (Obj.cells #[.int .i64 2, .string ⟨#[]⟩, .slice Av l.length cv, .slice none 0 0] 52 (0, 0)) from rfl)
  refine bodyPost_ret (results_ct rfl _ _ w.heap.size 52 _ (0, 0) _ rfl z2 Try.underlying52 rfl (by kernel_rfl)) rfl ?_
  refine ⟨_, rfl, ?_, ((((hB.setCell (p := ⟨w.heap.size + 1, 2, none⟩) (by simp) _).setCell (p := ⟨w.heap.size, 0, none⟩) (Nat.le_refl _) _).setCell (p := ⟨w.heap.size, 1, none⟩) (Nat.le_refl _) _).setCell (p := ⟨w.heap.size, 2, none⟩) (Nat.le_refl _) _).setCell (p := ⟨w.heap.size, 3, none⟩) (Nat.le_refl _) _⟩
  exact Kd.R_set (Kd.R_set (Kd.R_set (Kd.R_set (Kd.R_set hv2 hk (by decide) 2 _) z1 (by decide) 0 _) (blk_set z1 0 _) (by decide) 1 _) (blk_set (blk_set z1 0 _) 1 _) (by decide) 2 _) (blk_set (blk_set (blk_set z1 0 _) 1 _) 2 _) (by decide) 3 _

end Go.Proofs.Ytjjmfmlgemdjkaa

