/- Plain facts on texts (no program): bad bytes, names, the order of two texts. No condition. -/
import Derived.Test.YtbbembhfnapadaaDoorPl
import Derived.Laws.IdiomStrings
namespace Go.Proofs.YtbbembhfnapadaaDoor.Pl
open Go

/-! ### bad bytes -/
def badB (s : ByteArray) (p : Nat) : Bool := decide ((Utf8.decode s p).1 = 65533) && decide ((Utf8.decode s p).2 = 1)
theorem fffd (n b0 b1 b2 b3 : Nat) (h : (Lib.decodeN n b0 b1 b2 b3).1 = 65533) : (3 ≤ n ∧ b0 = 239 ∧ b1 = 191 ∧ b2 = 189) ↔ (Lib.decodeN n b0 b1 b2 b3).2 ≠ 1 := by
  unfold Lib.decodeN at h ⊢
  split
  · rename_i c; rw [if_pos c] at h; simp at h; omega
  · rename_i c; rw [if_neg c] at h
    split
    · rename_i d; rw [if_pos d] at h
      split
      · rename_i e; rw [if_pos e] at h; simp at h; omega
      · simp; omega
    · rename_i d; rw [if_neg d] at h
      split
      · rename_i e; rw [if_pos e] at h
        split
        · rename_i f; rw [if_pos f] at h; simp at h; simp; omega
        · rename_i f; simp; omega
      · rename_i e; rw [if_neg e] at h
        split
        · rename_i f; rw [if_pos f] at h
          split
          · rename_i g; rw [if_pos g] at h; simp at h; omega
          · simp; omega
        · simp; omega
theorem pre_iff (l : List UInt8) : (l.take 3 == [239, 191, 189]) = true ↔ 3 ≤ l.length ∧ (l.getD 0 0).toNat = 239 ∧ (l.getD 1 0).toNat = 191 ∧ (l.getD 2 0).toNat = 189 := by
  rw [beq_iff_eq]
  match l with
  | [] => simp
  | [_] => simp
  | [_, _] => simp
  | a :: b :: c :: t =>
    simp only [List.take_succ_cons, List.take_zero, List.cons.injEq, and_true, List.length_cons, List.getD_cons_zero, List.getD_cons_succ]
    simp only [← UInt8.toNat_inj]
    simp
theorem bad_eq (s : ByteArray) (p : Nat) (h : (Utf8.decode s p).1 = 65533) :
    (decide (3 ≤ (s.extract p s.size).size) && ((s.extract p s.size).extract 0 3).toList == [239, 191, 189]) = !badB s p := by
  have hs : s.data.toList.length = s.size := by rw [Array.length_toList]; rfl
  have e : ((s.extract p s.size).extract 0 3).toList = (s.data.toList.drop p).take 3 := by
    rw [ByteArray.toList_eq, Lib.extract_data, Lib.extract_data]
    simp only [List.drop_zero, Nat.sub_zero]
    congr 1
    exact List.take_of_length_le (by rw [List.length_drop, hs]; exact Nat.le_refl _)
  rw [e]
  have hd := Lib.decode_N s p
  rw [hd] at h
  have hf := fffd _ _ _ _ _ h
  rw [Bool.eq_iff_iff, Bool.and_eq_true, pre_iff, decide_eq_true_eq, Lib.tail_size]
  simp only [List.getD_eq_getElem?_getD, List.getElem?_drop, List.length_drop, Nat.add_zero] at hf ⊢
  unfold badB
  rw [hd, h]
  simp only [decide_true, Bool.true_and, Bool.not_eq_true', decide_eq_false_iff_not, List.getD_eq_getElem?_getD]
  rw [← ne_eq, ← hf, hs]
  omega
/-! ### names and the order -/
/-- 1 to 16 of them, the first a letter, every other one a letter, a digit or an index -/
def nameL (l : List Int) : Bool := decide (1 ≤ l.length) && decide (l.length ≤ 16) && (l.head?.map kindI == some 1) && l.all inName
/-- what is left of a text behind k good characters -/
def nameM (k : Nat) (l : List Int) : Bool := if k = 0 then nameL l else decide (k + l.length ≤ 16) && l.all inName
theorem nameM_nil (k : Nat) : nameM k [] = (decide (1 ≤ k) && decide (k ≤ 16)) := by
  unfold nameM
  split
  · rename_i h; subst h; rfl
  · simp; omega
theorem nameM_bad {k : Nat} {r : Int} {l : List Int} (h : inName r = false) : nameM k (r :: l) = false := by
  unfold nameM
  split
  · simp [nameL, h]
  · simp [h]
theorem nameM_head {r : Int} {l : List Int} (h : kindI r ≠ 1) : nameM 0 (r :: l) = false := by simp [nameM, nameL, h]
theorem nameM_first {r : Int} {l : List Int} (h : kindI r = 1) : nameM 0 (r :: l) = nameM 1 l := by
  simp [nameM, nameL, h, inName, Nat.add_comm]
theorem nameM_next {k : Nat} {r : Int} {l : List Int} (hk : k ≠ 0) (h : inName r = true) : nameM k (r :: l) = nameM (k + 1) l := by
  simp [nameM, hk, h]
  congr 1
  rw [decide_eq_decide]
  omega
theorem bad_kind {s : ByteArray} {p : Nat} (h : badB s p = true) : inName ((Utf8.decode s p).1 : Int) = false := by
  simp only [badB, Bool.and_eq_true, decide_eq_true_eq] at h
  rw [h.1]
  decide
def cmpL : List Int → List Int → Int
  | [], [] => 0
  | [], _ :: _ => -1
  | _ :: _, [] => 1
  | a :: x, b :: y => if a < b then -1 else if b < a then 1 else cmpL x y
theorem runesFrom_eq (s : ByteArray) : ∀ (k p : Nat) (acc : Array Value), Conv.runesFrom s k p acc = acc ++ ((runesN s k p).map fun r => Value.int .i32 r).toArray
  | 0, _, acc => by simp [Conv.runesFrom, runesN]
  | k + 1, p, acc => by
    unfold Conv.runesFrom runesN
    split
    · show Conv.runesFrom s k (p + (Utf8.decode s p).2) (acc.push (Value.int .i32 (Int.ofNat (Utf8.decode s p).1))) = _
      rw [runesFrom_eq s k]; simp
    · simp
theorem runesFrom_all (s : ByteArray) : Conv.runesFrom s s.size 0 #[] = ((runes s 0).map fun r => Value.int .i32 r).toArray := by
  rw [runesFrom_eq]; simp [runes]
theorem runesN_length (s : ByteArray) : ∀ (k p : Nat), (runesN s k p).length ≤ k
  | 0, _ => by simp [runesN]
  | k + 1, p => by unfold runesN; split <;> simp [runesN_length s k]
theorem runes_length (s : ByteArray) (p : Nat) : (runes s p).length ≤ s.size - p := runesN_length s _ _
theorem runesN_bd (s : ByteArray) : ∀ (k p : Nat), ∀ r ∈ runesN s k p, 0 ≤ r ∧ r ≤ 1114111
  | 0, _ => by simp [runesN]
  | k + 1, p => by
    unfold runesN
    split
    · intro r hr
      rw [List.mem_cons] at hr
      rcases hr with rfl | hr
      · have := Lib.rune_le s p; omega
      · exact runesN_bd s k _ r hr
    · simp
theorem runes_bd (s : ByteArray) (p : Nat) : ∀ r ∈ runes s p, 0 ≤ r ∧ r ≤ 1114111 := runesN_bd s _ _
theorem cmpL_bd (x y : List Int) : -1 ≤ cmpL x y ∧ cmpL x y ≤ 1 := by
  induction x generalizing y with
  | nil => cases y <;> simp [cmpL]
  | cons a x ih => cases y with
    | nil => simp [cmpL]
    | cons b y =>
      simp only [cmpL]
      split
      · omega
      · split
        · omega
        · exact ih y
def cmpI (a b : Int) : Int := if a < b then -1 else if b < a then 1 else 0
theorem cmpI_lt {a b : Int} (h : a < b) : cmpI a b = -1 := if_pos h
theorem cmpI_gt {a b : Int} (h : b < a) : cmpI a b = 1 := by unfold cmpI; rw [if_neg (by omega), if_pos h]
theorem cmpI_eq {a b : Int} (h : ¬ a < b) (g : ¬ b < a) : cmpI a b = 0 := by unfold cmpI; rw [if_neg h, if_neg g]
/-- the number at a place -/
def ix (l : List Int) (k : Nat) : Int := l.getD k 0
theorem cmpL_step {x y : List Int} {k : Nat} (hx : k < x.length) (hy : k < y.length) : cmpL (x.drop k) (y.drop k) = if ix x k < ix y k then -1 else if ix y k < ix x k then 1 else cmpL (x.drop (k + 1)) (y.drop (k + 1)) := by
  rw [List.drop_eq_getElem_cons hx, List.drop_eq_getElem_cons hy]
  simp [cmpL, ix, List.getD_eq_getElem?_getD, hx, hy]
theorem cmpL_right {x y : List Int} {k : Nat} (hx : k < x.length) (hy : y.length ≤ k) : cmpL (x.drop k) (y.drop k) = 1 := by
  rw [List.drop_eq_getElem_cons hx, List.drop_eq_nil_of_le hy]; rfl
theorem cmpL_left {x y : List Int} {k : Nat} (hx : x.length ≤ k) (hy : k < y.length) : cmpL (x.drop k) (y.drop k) = -1 := by
  rw [List.drop_eq_getElem_cons hy, List.drop_eq_nil_of_le hx]; rfl
theorem cmpL_ends {x y : List Int} {k : Nat} (hx : x.length ≤ k) (hy : y.length ≤ k) : cmpL (x.drop k) (y.drop k) = 0 := by
  rw [List.drop_eq_nil_of_le hy, List.drop_eq_nil_of_le hx]; rfl
end Go.Proofs.YtbbembhfnapadaaDoor.Pl
