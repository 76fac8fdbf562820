/- Plain facts: a text is its runes written down just if it has no bad byte. -/
import Derived.Test.YtkdpmbjcdbmffaaDoorPlE
import Derived.Laws.Cover4
import Derived.Stop.FmtQuoteTie
namespace Go.Proofs.YtkdpmbjcdbmffaaDoor.Pl

theorem enc_fffd : Lib.encodeRune 65533 = [239, 191, 189] := by decide
theorem bytes_bad (s : ByteArray) : ∀ (k p q : Nat), s.size - p ≤ k → firstBad s p = some q → s.data.toList.drop p ≠ (runes s p).flatMap Lib.encodeRune := by
  intro k
  induction k with
  | zero =>
    intro p q h2 hb
    rw [firstBad_end (by omega)] at hb
    cases hb
  | succ k ih =>
    intro p q h2 hb
    by_cases hp : p < s.size
    · rw [firstBad_step hp] at hb
      rw [runes_step hp, List.flatMap_cons]
      split at hb
      · rename_i hg
        have h1 : (Utf8.decode s p).1 = 65533 := by
          unfold badB at hg
          simp only [Bool.and_eq_true, decide_eq_true_eq] at hg
          exact hg.1
        intro e
        rw [h1] at e
        have e1 : Lib.encodeRune ((65533 : Nat) : Int) = [239, 191, 189] := enc_fffd
        rw [e1] at e
        have hb2 := bad_eq s p h1
        rw [hg] at hb2
        have hl : 3 ≤ (s.extract p s.size).size := by
          have := congrArg List.length e
          rw [List.length_drop, len_eq, List.length_append] at this
          rw [Lib.tail_size]
          simp at this
          omega
        have e3 : ((s.extract p s.size).extract 0 3).toList = (s.data.toList.drop p).take 3 := by
          rw [ByteArray.toList_eq, Lib.extract_data, Lib.extract_data]
          simp only [List.drop_zero, Nat.sub_zero]
          congr 1
          exact List.take_of_length_le (by rw [List.length_drop, len_eq]; exact Nat.le_refl _)
        rw [e3, e, decide_eq_true hl] at hb2
        simp at hb2
      · rename_i hg
        have hd := Lib.decodeL_drop s p
        have hne : s.data.toList.drop p ≠ [] := by
          intro e
          have := congrArg List.length e
          rw [List.length_drop, len_eq] at this
          simp at this
          omega
        have he := Lib.encode_decode (s.data.toList.drop p) hne (by rw [hd]; unfold badB at hg; simpa using hg)
        rw [hd] at he
        rw [he]
        intro e
        have h3 := ih _ _ (by have := wd_pos s p; omega) hb
        apply h3
        have h4 := (List.take_append_drop (Utf8.decode s p).2 (s.data.toList.drop p)).trans e
        rw [List.drop_drop] at h4
        exact List.append_cancel_left h4
    · rw [firstBad_end hp] at hb
      cases hb
theorem enc_is (r : Nat) : (Utf8.encode (r : Int)).data.toList = Lib.encodeRune (r : Int) := by
  unfold Lib.encodeRune
  rw [← Go.Extern.FmtText.encode_eq r]
  unfold Go.Extern.FmtText.nums
  rw [List.map_map]
  have : ((fun x : Int => x.toNat.toUInt8) ∘ fun x : UInt8 => (x.toNat : Int)) = id := by
    funext x
    simp
  rw [this, List.map_id]
theorem runesBytes_list (f : Int → List UInt8) : ∀ (ns : List Int) (b : ByteArray), (∀ r ∈ ns, (Utf8.encode r).data.toList = f r) → (ns.foldl (fun r n => r ++ Utf8.encode n) b).data.toList = b.data.toList ++ ns.flatMap f
  | [], b, _ => by simp
  | n :: ns, b, h => by
    rw [List.foldl_cons, runesBytes_list f ns _ (fun r hr => h r (List.mem_cons_of_mem _ hr)), cat_data, h n List.mem_cons_self, List.flatMap_cons, List.append_assoc]
/-- A text is its runes written down just if it has no bad byte. -/
theorem back_iff (s : ByteArray) : ((runesBytes (runes s 0)).data.toList = s.data.toList) ↔ firstBad s 0 = none := by
  have h1 : (runesBytes (runes s 0)).data.toList = (runes s 0).flatMap Lib.encodeRune := by
    unfold runesBytes
    rw [runesBytes_list Lib.encodeRune (runes s 0) ByteArray.empty (fun r hr => by
      obtain ⟨n, rfl⟩ := Int.eq_ofNat_of_zero_le (runes_bd s 0 r hr).1
      exact enc_is n)]
    rfl
  rw [h1]
  cases hb : firstBad s 0 with
  | none =>
    have := bytes_runes s s.size 0 (Nat.zero_le _) (by omega) hb
    rw [List.drop_zero] at this
    exact ⟨fun _ => rfl, fun _ => this.symm⟩
  | some q =>
    have := bytes_bad s s.size 0 q (by omega) hb
    rw [List.drop_zero] at this
    exact ⟨fun e => absurd e.symm this, fun e => by cases e⟩
end Go.Proofs.YtkdpmbjcdbmffaaDoor.Pl
