/- The law VnameParts, out of what its functions tell. -/
import Derived.Test.YtmondgamackcgaaDoorVnO
import Derived.Test.YtmondgamackcgaaDoorVnS
import Derived.Test.YtmondgamackcgaaDoorPVnx6
namespace Go.Proofs.YtmondgamackcgaaDoor.Pure
open Go.RowKit Go.Proofs.YtmondgamackcgaaDoor.PVn Go.Proofs.YtmondgamackcgaaDoorW.PrintWords Go.Proofs.YtmondgamackcgaaDoorW.PrintLast Go.Proofs.YtmondgamackcgaaDoorW.PrintMore

def joinF : Bool → List Nat → List (List Nat) → List Nat
  | _, t, [] => t
  | true, t, x :: r => joinF false (t ++ x) r
  | false, t, x :: r => joinF false (t ++ 46 :: x) r
theorem joinF_false : ∀ (r : List (List Nat)) (t : List Nat), joinF false t r = t ++ r.flatMap (fun x => 46 :: x)
  | [], t => by rw [joinF]; simp
  | x :: r, t => by rw [joinF, joinF_false r]; simp
theorem join_split (l : List Nat) : joinF true [] (splitD l) = l := by
  obtain ⟨h, t, e⟩ := splitD_cons l
  rw [e, joinF, joinF_false, List.nil_append]
  exact splitD_join l h t e
theorem rd_at (L : List ByteArray) (i : Nat) (h : i < L.length) : rdOf ByteArray.empty L (i : Int) = L[i] := by
  unfold rdOf
  rw [Int.toNat_natCast, List.getD_eq_getElem?_getD, List.getElem?_eq_getElem h]
  rfl
theorem parts_loop (s : ByteArray) (L : List ByteArray) (hL : L.length ≤ 300) (hP : ∀ x ∈ L, nameL false (nats x) = true ∧ 46 ∉ nats x ∧ x.size ≤ 200) : ∀ (d i k : Nat) (t : ByteArray), L.length - i = d → i ≤ L.length → 2 * d + 2 ≤ k → t.size ≤ 300 * i → joinF (decide (i = 0)) (nats t) ((L.map nats).drop i) = nats s →
    phalaropelaw05_VnameParts.l0 k s true L t (i : Int) = some true
  | 0, i, k, t, hd, hi, hk, hz, hj => by
    obtain ⟨k, rfl⟩ : ∃ m, k = m + 1 := ⟨k - 1, by omega⟩
    rw [List.drop_eq_nil_of_le (by rw [List.length_map]; omega)] at hj
    have ht : nats t = nats s := by cases hb : decide (i = 0) <;> rw [hb, joinF] at hj <;> exact hj
    rw [phalaropelaw05_VnameParts.l0, if_neg (by omega), if_pos rfl, toList_nats.2 ht]
    simp
  | d + 1, i, k, t, hd, hi, hk, hz, hj => by
    obtain ⟨k, rfl⟩ : ∃ m, k = m + 2 := ⟨k - 2, by omega⟩
    have hlt : i < L.length := by omega
    obtain ⟨p1, p2, p3⟩ := hP L[i] (List.getElem_mem hlt)
    have q1 : t.size + (L[i]).size ≤ 9223372036854775807 := by omega
    have q2 : t.size + 1 ≤ 9223372036854775807 := by omega
    have q4 : (i : Int) < (L.length : Int) := by omega
    have q5 : (0 : Int) ≤ (i : Int) := by omega
    have hdr : (L.map nats).drop i = nats L[i] :: (L.map nats).drop (i + 1) := by
      rw [List.drop_eq_getElem_cons (by rw [List.length_map]; exact hlt), List.getElem_map]
    have hcount : Lib.countB L[i] dot = 0 := by rw [count_nats, List.count_eq_zero]; exact p2
    have hsz1 : (Lib.splitB dot 0 (Lib.countB L[i] dot) L[i]).length = 1 := by rw [Lib.splitB_all dot (by decide) 0 _ L[i] rfl, hcount]
    have z1 : (⟨#[46]⟩ : ByteArray).size = 1 := rfl
    have z2 : (t ++ (⟨#[46]⟩ : ByteArray)).size = t.size + 1 := by rw [ByteArray.size_append, z1]
    rw [hdr] at hj
    rw [phalaropelaw05_VnameParts.l0, if_pos (by omega), if_pos (by omega), rd_at L i hlt, may_f _ (by omega), Option.bind_some, if_pos p1, split_f _ (by omega), Option.bind_some, if_pos p1, hsz1]
    rw [phalaropelaw05_VnameParts.j1, if_neg (show ¬ ((((1 : Nat) : Int) != 1) = true) by decide)]
    have hw : wrap64 ((i : Int) + 1) = ((i + 1 : Nat) : Int) := by rw [wrap_id (by omega) (by omega)]; omega
    clear hsz1 hcount
    have q3 : (t ++ (⟨#[46]⟩ : ByteArray)).size + (L[i]).size ≤ 9223372036854775807 := by omega
    by_cases h0 : i = 0
    · rw [decide_eq_true h0, joinF] at hj
      have n1 := parts_loop s L hL hP d (i + 1) k (t ++ L[i]) (by omega) (by omega) (by omega) (by rw [ByteArray.size_append]; omega) (by rw [decide_eq_false (by omega), nats_append]; exact hj)
      have q6 : ¬ (i : Int) > 0 := by omega
      rw [if_neg q6, if_pos q5, if_pos q4, rd_at L i hlt, if_pos q1, hw]
      exact n1
    · rw [decide_eq_false h0, joinF] at hj
      have n1 := parts_loop s L hL hP d (i + 1) k ((t ++ (⟨#[46]⟩ : ByteArray)) ++ L[i]) (by omega) (by omega) (by omega) (by rw [ByteArray.size_append]; omega) (by rw [decide_eq_false (by omega), nats_append, nats_append, List.append_assoc]; exact hj)
      have q6 : (i : Int) > 0 := by omega
      rw [if_pos q6, if_pos q2, if_pos q5, if_pos q4, rd_at L i hlt, if_pos q3, hw]
      exact n1
theorem VnameParts : phalaropelaw05_VnameParts.Pure := by
  intro s _
  refine ⟨700, ?_⟩
  generalize hk : 700 = k
  unfold phalaropelaw05_VnameParts.f
  rw [awake5, Option.bind_some]
  by_cases h1 : (s.size : Int) > 200
  · rw [if_pos h1]
  rw [if_neg h1, split_f s (by omega), Option.bind_some, may_f s (by omega), Option.bind_some]
  cases hn : nameL false (nats s) with
  | false => rfl
  | true =>
    have hl := Lib.splitB_all dot (by decide) 0 _ s rfl
    have hle := Lib.countB_le dot (by decide) s.size s (Nat.le_refl _)
    have hS := split_nats _ s rfl
    rw [if_pos rfl, if_pos rfl]
    refine parts_loop s _ (by rw [hl]; omega) (fun x hx => ?_) _ 0 k _ rfl (by omega) (by rw [hl]; omega) (Nat.le_refl _) ?_
    · have hm : nats x ∈ splitD (nats s) := by rw [← hS]; exact List.mem_map_of_mem hx
      obtain ⟨h, t, e, hh, ht⟩ := splitD_name (nats s) false hn
      have hp := splitD_parts (nats s) (nats x) hm
      rw [nats_len, nats_len] at hp
      refine ⟨?_, hp.1, by omega⟩
      rw [e] at hm
      rcases List.mem_cons.1 hm with hm | hm
      · rw [hm]; exact hh
      · exact ht _ hm
    · rw [hS, List.drop_zero]
      exact join_split (nats s)
end Go.Proofs.YtmondgamackcgaaDoor.Pure
