/-
  Plain laws of flags and filling: what is stored byte by byte.
-/
import Derived.Test.YtjfponhdlfhmbaaPlain2
namespace Go.Proofs.Ytjfponhdlfhmbaa.Avp
open Go.RowKit Mem Cells Avps Wire Ops
set_option linter.unusedVariables false
set_option linter.unusedSimpArgs false

/-- An attribute's bytes, k of those behind the data filled. -/
def encH (r fill : Int) (k : Nat) (a : A) : List Int :=
  bytesOf a.code 4 4 ++ [flagN a + r] ++ bytesOf (headN (venB a) + a.data.length) 3 3 ++ (if venB a then bytesOf a.vendor 4 4 else []) ++ a.data ++ (List.replicate k fill ++ List.replicate ((padN a.data.length).toNat - k) 0)
theorem encH_zero (r fill : Int) (a : A) : encH r fill 0 a = encG r 0 a := by simp [encH, encG]
theorem encH_all (r fill : Int) (a : A) : encH r fill (padN a.data.length).toNat a = encG r fill a := by simp [encH, encG]
/-- How many bytes stand ahead of the filling. -/
def bodyN (a : A) : Nat := (headN (venB a)).toNat + a.data.length
theorem bodyN_int (a : A) : (bodyN a : Int) = headN (venB a) + a.data.length := by
  have := headN_bd (venB a)
  unfold bodyN; omega
theorem encG_len (r fill : Int) (a : A) : (encG r fill a).length = bodyN a + (padN a.data.length).toNat := by
  have h1 := encG_length r fill a
  have h2 := bodyN_int a
  have h3 := padN_bd a.data.length
  omega
theorem set_pre (pre l post : List Int) (j : Nat) (x : Int) (h : j < l.length) : (pre ++ l ++ post).set (pre.length + j) x = pre ++ l.set j x ++ post := by
  rw [List.append_assoc, List.set_append_right _ _ (by omega), Nat.add_sub_cancel_left, List.set_append_left _ _ h, List.append_assoc]
theorem set_flag (a : A) (r : Int) : (encG 0 0 a).set 4 (flagN a + r) = encG r 0 a := by
  unfold encG
  rw [bytes4]
  simp
theorem get_flag (pre post : List Int) (a : A) : (pre ++ encG 0 0 a ++ post).getD (pre.length + 4) 0 = flagN a := by
  rw [List.append_assoc, List.getD_eq_getElem?_getD, List.getElem?_append_right (by omega), Nat.add_sub_cancel_left]
  unfold encG
  rw [bytes4]
  simp
theorem set_fill (a : A) (r fill : Int) (k : Nat) (hk : k < (padN a.data.length).toNat) : (encH r fill k a).set (bodyN a + k) fill = encH r fill (k + 1) a := by
  have hl : (bytesOf a.code 4 4 ++ [flagN a + r] ++ bytesOf (headN (venB a) + a.data.length) 3 3 ++ (if venB a then bytesOf a.vendor 4 4 else []) ++ a.data).length = bodyN a := by
    unfold bodyN headN
    cases venB a <;> simp [bytesOf_length] <;> omega
  unfold encH
  rw [List.set_append_right _ _ (by omega), hl, Nat.add_sub_cancel_left, List.set_append_right _ _ (by simp), List.length_replicate, Nat.sub_self]
  congr 1
  obtain ⟨m, hm⟩ : ∃ m, (padN a.data.length).toNat - k = m + 1 := ⟨(padN a.data.length).toNat - k - 1, by omega⟩
  rw [hm, List.replicate_succ, List.set_cons_zero, show (padN a.data.length).toNat - (k + 1) = m by omega, List.replicate_succ', List.append_assoc]
  rfl
theorem encH_len (r fill : Int) (k : Nat) (a : A) (hk : k ≤ (padN a.data.length).toNat) : (encH r fill k a).length = bodyN a + (padN a.data.length).toNat := by
  rw [← encG_len r fill a]
  unfold encH encG
  simp
  omega
theorem len_enc (pre post : List Int) (a : A) (hd : a.data.length ≤ 4096) : getN (pre ++ encG 0 0 a ++ post) (pre.length + 5) 3 = headN (venB a) + a.data.length := by
  have hb := headN_bd (venB a)
  rw [getN_drop _ pre.length 5 3 (by omega) (by simp)]
  rw [List.append_assoc, List.drop_left]
  have e : encG 0 0 a ++ post = (bytesOf a.code 4 4 ++ [flagN a + 0]) ++ (bytesOf (headN (venB a) + a.data.length) 3 3 ++ ((if venB a then bytesOf a.vendor 4 4 else []) ++ a.data ++ List.replicate (padN a.data.length).toNat 0 ++ post)) := by simp [encG]
  rw [e, getN_at _ _ _ 5 3 (by simp [bytesOf_length]) (by rw [bytesOf_length]; rfl) (by omega), bytes_num3 _ (by omega)]
theorem and31 (b : Int) (h : 0 ≤ b ∧ b ≤ 255) : 0 ≤ bits .and .u8 b 31 ∧ bits .and .u8 b 31 ≤ 31 := by
  obtain ⟨n, rfl⟩ := Int.eq_ofNat_of_zero_le h.1
  have key : (List.range 256).all (fun n : Nat => decide (0 ≤ bits .and .u8 (n : Int) 31) && decide (bits .and .u8 (n : Int) 31 ≤ 31)) = true := by kernel_rfl
  have := List.all_eq_true.1 key n (List.mem_range.2 (by omega))
  simpa using this
theorem orFlag (a : A) (r : Int) (h : 0 ≤ r ∧ r ≤ 31) : bits .or .u8 (flagN a) r = flagN a + r := by
  obtain ⟨n, rfl⟩ := Int.eq_ofNat_of_zero_le h.1
  have key : (List.range 8).all (fun i : Nat => (List.range 32).all (fun n : Nat => bits .or .u8 ((32 * i : Nat) : Int) (n : Int) == ((32 * i : Nat) : Int) + n)) = true := by kernel_rfl
  obtain ⟨i, hi, e⟩ : ∃ i : Nat, i < 8 ∧ flagN a = ((32 * i : Nat) : Int) := by
    unfold flagN
    cases venB a <;> cases a.must <;> cases a.prot
    · exact ⟨0, by decide, rfl⟩
    · exact ⟨1, by decide, rfl⟩
    · exact ⟨2, by decide, rfl⟩
    · exact ⟨3, by decide, rfl⟩
    · exact ⟨4, by decide, rfl⟩
    · exact ⟨5, by decide, rfl⟩
    · exact ⟨6, by decide, rfl⟩
    · exact ⟨7, by decide, rfl⟩
  have := List.all_eq_true.1 (List.all_eq_true.1 key i (List.mem_range.2 hi)) n (List.mem_range.2 (by omega))
  rw [e]
  simpa using this
theorem padN_body (a : A) : padN (headN (venB a) + a.data.length) = padN a.data.length := padN_head _ _ (by omega)
theorem drop_cons {al : List A} {k : Nat} {x : A} (hx : al[k]? = some x) : al.drop k = x :: al.drop (k + 1) := by
  obtain ⟨h1, e1⟩ := List.getElem?_eq_some_iff.1 hx
  rw [List.drop_eq_getElem_cons h1, e1]
/-- The bytes behind k attributes that were turned. -/
def mid (al : List A) (r fill : Int) (k : Nat) : List Int := encAll r fill (al.take k) ++ encAll 0 0 (al.drop k)
theorem mid_zero (al : List A) (r fill : Int) : mid al r fill 0 = encAll 0 0 al := by simp [mid, encAll]
theorem mid_all (al : List A) (r fill : Int) (k : Nat) (h : al.length ≤ k) : mid al r fill k = encAll r fill al := by
  unfold mid
  rw [List.take_of_length_le h, List.drop_of_length_le h]
  simp [encAll]
theorem mid_at {al : List A} {k : Nat} {x : A} (r fill : Int) (hx : al[k]? = some x) : mid al r fill k = encAll r fill (al.take k) ++ encG 0 0 x ++ encAll 0 0 (al.drop (k + 1)) := by
  unfold mid
  rw [drop_cons hx, encAll_cons, List.append_assoc]
theorem mid_next {al : List A} {k : Nat} {x : A} (r fill : Int) (hx : al[k]? = some x) : mid al r fill (k + 1) = encAll r fill (al.take k) ++ encG r fill x ++ encAll 0 0 (al.drop (k + 1)) := by
  obtain ⟨h1, e1⟩ := List.getElem?_eq_some_iff.1 hx
  unfold mid
  rw [List.take_succ_eq_append_getElem h1, encAll_append, e1]
  simp [encAll]
theorem encAll_len (al : List A) (r fill r' fill' : Int) : (encAll r fill al).length = (encAll r' fill' al).length := by
  induction al with
  | nil => rfl
  | cons a al ih =>
    rw [encAll_cons, encAll_cons, List.length_append, List.length_append, ih, encG_len, encG_len]
end Go.Proofs.Ytjfponhdlfhmbaa.Avp
