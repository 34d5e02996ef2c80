/-
  Plain laws of attributes as bytes: what was put is got; what was got is put.
-/
import Derived.Test.YtjfponhdlfhmbaaGet1
namespace Go.Proofs.Ytjfponhdlfhmbaa.Avp
open Go.RowKit Mem Cells Avps Wire
set_option linter.unusedVariables false
set_option linter.unusedSimpArgs false

def venB (a : A) : Bool := decide (a.vendor ≠ 0)
def flagN (a : A) : Int := (if venB a then 128 else 0) + (if a.must then 64 else 0) + (if a.prot then 32 else 0)
/-- An attribute's bytes: r in the flags that mean nothing, fill behind the data. -/
def encG (r fill : Int) (a : A) : List Int :=
  bytesOf a.code 4 4 ++ [flagN a + r] ++ bytesOf (headN (venB a) + a.data.length) 3 3 ++ (if venB a then bytesOf a.vendor 4 4 else []) ++ a.data ++ List.replicate (padN a.data.length).toNat fill
abbrev enc (a : A) : List Int := encG 0 0 a
def encAll (r fill : Int) (al : List A) : List Int := al.flatMap (encG r fill)
theorem bytes4 (n : Int) : bytesOf n 4 4 = [n / 16777216 % 256, n / 65536 % 256, n / 256 % 256, n % 256] := by
  simp [bytesOf, List.range, List.range.loop]
theorem bytes3 (n : Int) : bytesOf n 3 3 = [n / 65536 % 256, n / 256 % 256, n % 256] := by
  simp [bytesOf, List.range, List.range.loop]
theorem padN_bd (n : Int) : 0 ≤ padN n ∧ padN n ≤ 3 := by unfold padN; split <;> omega
theorem padN_head (b : Bool) (n : Int) (h : 0 ≤ n) : padN (headN b + n) = padN n := by
  unfold padN headN
  cases b <;> simp <;> (rw [if_neg (by omega), if_neg (by omega)]; omega)
theorem encG_length (r fill : Int) (a : A) : ((encG r fill a).length : Int) = headN (venB a) + a.data.length + padN a.data.length := by
  have := padN_bd a.data.length
  unfold encG headN
  cases venB a <;> simp [bytesOf_length] <;> omega
theorem headN_bd (b : Bool) : 8 ≤ headN b ∧ headN b ≤ 12 := by cases b <;> decide

theorem num4 (a b c d : Int) : num [a, b, c, d] = ((a * 256 + b) * 256 + c) * 256 + d := by simp [num]
theorem num3 (a b c : Int) : num [a, b, c] = (a * 256 + b) * 256 + c := by simp [num]
theorem flag_bd (a : A) (r : Int) (hr : 0 ≤ r ∧ r ≤ 31) : decide (128 ≤ flagN a + r) = venB a ∧ decide ((flagN a + r) / 64 % 2 = 1) = a.must ∧ decide ((flagN a + r) / 32 % 2 = 1) = a.prot := by
  unfold flagN
  cases venB a <;> cases a.must <;> cases a.prot <;> simp <;> omega

theorem getN_at (u l rest : List Int) (k n : Int) (hk : k = u.length) (hn : n = l.length) (h1 : 1 ≤ n ∧ n ≤ 8) : getN (u ++ (l ++ rest)) k n = num l := by
  subst hk
  subst hn
  have hp : partE ((u ++ (l ++ rest)).length : Int) u.length l.length = 0 := by
    unfold partE
    rw [if_neg (by omega), if_neg (by simp only [List.length_append]; omega)]
  unfold getN partL
  rw [if_pos h1, hp, if_pos rfl]
  simp
theorem bytes_num4 (n : Int) (h : 0 ≤ n ∧ n ≤ 4294967295) : num (bytesOf n 4 4) = n := by rw [bytes4, num4]; omega
theorem bytes_num3 (n : Int) (h : 0 ≤ n ∧ n ≤ 16777215) : num (bytesOf n 3 3) = n := by rw [bytes3, num3]; omega
/-- The first attribute of bytes that begin with an attribute's. -/
theorem one_enc (a : A) (r fill : Int) (rest : List Int) (ha : a.ok) (hd : a.data.length ≤ 4096) (hr : 0 ≤ r ∧ r ≤ 31) :
    oneE (encG r fill a ++ rest) = 0 ∧ oneA (encG r fill a ++ rest) = a ∧ oneN (encG r fill a ++ rest) = (encG r fill a).length := by
  obtain ⟨hc, hv, hda⟩ := ha
  obtain ⟨f1, f2, f3⟩ := flag_bd a r hr
  have hlen := encG_length r fill a
  have hpd := padN_head (venB a) a.data.length (by omega)
  have hp := padN_bd a.data.length
  have key : ∃ X, encG r fill a ++ rest = X ∧ X.getD 4 0 = flagN a + r ∧ getN X 0 4 = a.code ∧ getN X 5 3 = headN (venB a) + a.data.length ∧ (venB a = true → getN X 8 4 = a.vendor) ∧ (X.drop (headN (venB a)).toNat).take a.data.length = a.data ∧ (X.length : Int) = (encG r fill a).length + rest.length := by
    refine ⟨_, rfl, ?_⟩
    rw [List.length_append]
    refine ⟨?_, ?_, ?_, ?_, ?_, by omega⟩
    · unfold encG
      rw [bytes4]
      simp
    · have e : encG r fill a ++ rest = [] ++ (bytesOf a.code 4 4 ++ ([flagN a + r] ++ bytesOf (headN (venB a) + a.data.length) 3 3 ++ (if venB a then bytesOf a.vendor 4 4 else []) ++ a.data ++ List.replicate (padN a.data.length).toNat fill ++ rest)) := by simp [encG]
      rw [e, getN_at _ _ _ 0 4 rfl (by rw [bytesOf_length]; rfl) (by omega), bytes_num4 _ hc]
    · have e : encG r fill a ++ rest = (bytesOf a.code 4 4 ++ [flagN a + r]) ++ (bytesOf (headN (venB a) + a.data.length) 3 3 ++ ((if venB a then bytesOf a.vendor 4 4 else []) ++ a.data ++ List.replicate (padN a.data.length).toNat fill ++ rest)) := by simp [encG]
      have hb := headN_bd (venB a)
      rw [e, getN_at _ _ _ 5 3 (by simp [bytesOf_length]) (by rw [bytesOf_length]; rfl) (by omega), bytes_num3 _ (by omega)]
    · intro h
      have e : encG r fill a ++ rest = (bytesOf a.code 4 4 ++ [flagN a + r] ++ bytesOf (headN (venB a) + a.data.length) 3 3) ++ (bytesOf a.vendor 4 4 ++ (a.data ++ List.replicate (padN a.data.length).toNat fill ++ rest)) := by simp [encG, h]
      rw [e, getN_at _ _ _ 8 4 (by simp [bytesOf_length]) (by rw [bytesOf_length]; rfl) (by omega), bytes_num4 _ hv]
    · unfold encG
      rw [bytes4, bytes3]
      cases hb : venB a
      · simp [headN]
      · rw [bytes4]; simp [headN]
  obtain ⟨X, hX, k1, k2, k3, k4, k5, k6⟩ := key
  rw [hX]
  have hvd : vend X = venB a := by unfold vend; rw [k1]; exact f1
  have hh := headN_bd (venB a)
  have hE : oneE X = 0 := by
    unfold oneE lenN
    rw [hvd, k3, hpd, k6, hlen]
    rw [if_neg (by
      rintro (h | ⟨h, h'⟩)
      · omega
      · rw [h] at hlen h'; simp [headN] at h'; omega), if_neg (by omega), if_neg (by omega), if_neg]
    rintro ⟨h, h'⟩
    rw [k4 h] at h'
    simp [venB] at h
    exact h h'
  refine ⟨hE, ?_, ?_⟩
  · unfold oneA lenN
    rw [if_pos hE, hvd, k2, k3, k1, f2, f3]
    have e1 : (headN (venB a) + (a.data.length : Int) - headN (venB a)).toNat = a.data.length := by omega
    rw [e1, k5]
    cases hb : venB a
    · simp [venB] at hb
      simp [← hb]
    · simp [k4 hb]
  · unfold oneN lenN
    rw [if_pos hE, k3, hpd, hlen]

theorem encAll_cons (r fill : Int) (a : A) (al : List A) : encAll r fill (a :: al) = encG r fill a ++ encAll r fill al := rfl
theorem encAll_append (r fill : Int) (al bl : List A) : encAll r fill (al ++ bl) = encAll r fill al ++ encAll r fill bl := by simp [encAll]
theorem getF_enc (r fill : Int) (hr : 0 ≤ r ∧ r ≤ 31) : ∀ (al : List A) (pre : List Int) (acc : List A) (f : Nat), (∀ a ∈ al, a.ok ∧ a.data.length ≤ 4096) → (pre ++ encAll r fill al).length ≤ pre.length + f → acc.length + al.length ≤ 64 →
    getF (pre ++ encAll r fill al) f pre.length acc = (acc ++ al, 0, 0)
  | [], pre, acc, f, _, _, _ => by rw [getF_end (by simp [encAll])]; simp
  | a :: al, pre, acc, f, h, hf, h64 => by
    obtain ⟨ha, hd⟩ := h a (List.mem_cons_self ..)
    have e : (pre ++ encAll r fill (a :: al)).drop pre.length = encG r fill a ++ encAll r fill al := by rw [encAll_cons]; simp
    obtain ⟨h1, h2, h3⟩ := one_enc a r fill (encAll r fill al) ha hd hr
    have hl := encG_length r fill a
    have hh := headN_bd (venB a)
    have hp := padN_bd a.data.length
    have hlt : pre.length < (pre ++ encAll r fill (a :: al)).length := by
      rw [encAll_cons, List.length_append, List.length_append]; omega
    simp only [List.length_cons] at h64
    have hacc : acc.length < 64 := by omega
    obtain ⟨f', g1, g2⟩ := getF_go (acc := acc) hf hlt hacc (by rw [e]; exact h1)
    rw [g2, e, h2, h3]
    have e2 : pre ++ encAll r fill (a :: al) = (pre ++ encG r fill a) ++ encAll r fill al := by rw [encAll_cons, List.append_assoc]
    have e3 : pre.length + ((encG r fill a).length : Int).toNat = (pre ++ encG r fill a).length := by simp
    rw [e, h3, e3, e2] at g1
    rw [e2, e3]
    have := getF_enc r fill hr al (pre ++ encG r fill a) (acc ++ [a]) f' (fun b hb => h b (List.mem_cons_of_mem _ hb)) g1 (by simp; omega)
    rw [this]
    simp
/-- WHAT WAS PUT IS GOT. -/
theorem get_put (r fill : Int) (hr : 0 ≤ r ∧ r ≤ 31) (al : List A) (h : ∀ a ∈ al, a.ok ∧ a.data.length ≤ 4096) (h64 : al.length ≤ 64) (hl : (encAll r fill al).length ≤ 4096) : getOf (encAll r fill al) = (al, 0, 0) := by
  unfold getOf
  rw [if_neg (by omega)]
  have := getF_enc r fill hr al [] [] (encAll r fill al).length h (by simp) (by simpa using h64)
  simpa using this

theorem getN4_bd (xs : List Int) (h : ∀ x ∈ xs, 0 ≤ x ∧ x ≤ 255) (k : Int) : 0 ≤ getN xs k 4 ∧ getN xs k 4 ≤ 4294967295 := by
  unfold getN
  rw [if_pos (by omega)]
  have h1 := num_bound (partL xs k 4) (fun x hx => h x (partL_mem hx))
  have h2 : (partL xs k 4).length ≤ 4 := by unfold partL; split <;> simp; omega
  have h3 : 256 ^ (partL xs k 4).length ≤ 256 ^ 4 := Nat.pow_le_pow_right (by omega) h2
  have h4 : (256 ^ 4 : Nat) = 4294967296 := by decide
  omega
/-- What was got first: it may be, and how many bytes it is. -/
theorem one_ok (xs : List Int) (h : ∀ x ∈ xs, 0 ≤ x ∧ x ≤ 255) (hE : oneE xs = 0) : (oneA xs).ok ∧ ∀ r fill, ((encG r fill (oneA xs)).length : Int) = oneN xs := by
  have hE' := hE
  unfold oneE at hE'
  split at hE'
  · cases hE'
  rename_i c1
  split at hE'
  · cases hE'
  rename_i c2
  split at hE'
  · cases hE'
  rename_i c3
  split at hE'
  · cases hE'
  rename_i c4
  have hb := headN_bd (vend xs)
  have hp := padN_bd (lenN xs)
  have g0 := getN4_bd xs h 0
  have g8 := getN4_bd xs h 8
  have hA : oneA xs = ⟨getN xs 0 4, if vend xs then getN xs 8 4 else 0, decide (xs.getD 4 0 / 64 % 2 = 1), decide (xs.getD 4 0 / 32 % 2 = 1), (xs.drop (headN (vend xs)).toNat).take (lenN xs - headN (vend xs)).toNat⟩ := by unfold oneA; rw [if_pos hE]
  refine ⟨?_, fun r fill => ?_⟩
  · rw [hA]
    refine ⟨g0, ?_, fun x hx => h x (List.mem_of_mem_drop (List.mem_of_mem_take hx))⟩
    show 0 ≤ (if vend xs then getN xs 8 4 else 0) ∧ (if vend xs then getN xs 8 4 else 0) ≤ 4294967295
    cases vend xs
    · simp
    · exact g8
  · rw [encG_length]
    have hv : venB (oneA xs) = vend xs := by
      rw [hA]
      unfold venB
      cases hv : vend xs
      · simp
      · rw [hv] at c4
        simp at c4
        simp [c4]
    have hdl : ((oneA xs).data.length : Int) = lenN xs - headN (vend xs) := by
      rw [hA]
      simp only [List.length_take, List.length_drop]
      omega
    have hpp := padN_head (vend xs) ((oneA xs).data.length) (by omega)
    unfold oneN
    rw [if_pos hE, hv, ← hpp, hdl]
    rw [show headN (vend xs) + (lenN xs - headN (vend xs)) = lenN xs from by omega]
theorem getF_back (xs : List Int) (h : ∀ x ∈ xs, 0 ≤ x ∧ x ≤ 255) (r fill : Int) : ∀ (f at_ : Nat) (acc : List A) (R : List A) (k : Int), xs.length ≤ at_ + f → at_ ≤ xs.length → acc.length ≤ 64 → getF xs f at_ acc = (R, k, 0) →
    ∃ more, R = acc ++ more ∧ R.length ≤ 64 ∧ ((encAll r fill more).length : Int) = xs.length - at_ ∧ ∀ a ∈ more, a.ok
  | 0, at_, acc, R, k, hf, hat, h64, e => by
    have e' : (acc, (0 : Int), (0 : Int)) = (R, k, 0) := e
    cases e'
    exact ⟨[], by simp, h64, by simp [encAll]; omega, fun a ha => by cases ha⟩
  | f + 1, at_, acc, R, k, hf, hat, h64, e => by
    unfold getF at e
    split at e
    · cases e
      exact ⟨[], by simp, h64, by simp [encAll]; omega, fun a ha => by cases ha⟩
    rename_i c1
    split at e
    · cases e
    rename_i c2
    split at e
    · rename_i c3
      have hx : ∀ x ∈ xs.drop at_, 0 ≤ x ∧ x ≤ 255 := fun x hm => h x (List.mem_of_mem_drop hm)
      obtain ⟨o1, o2⟩ := one_ok (xs.drop at_) hx c3
      obtain ⟨n1, n2⟩ := oneN_ge c3
      rw [List.length_drop] at n2
      obtain ⟨more, m1, m2, m3, m4⟩ := getF_back xs h r fill f (at_ + (oneN (xs.drop at_)).toNat) (acc ++ [oneA (xs.drop at_)]) R k (by omega) (by omega) (by simp; omega) e
      refine ⟨oneA (xs.drop at_) :: more, by rw [m1]; simp, m2, ?_, fun a ha => ?_⟩
      · rw [encAll_cons, List.length_append]
        have := o2 r fill
        omega
      · rcases List.mem_cons.1 ha with rfl | ha
        · exact o1
        · exact m4 a ha
    · rename_i c3
      simp only [Prod.mk.injEq] at e
      exact absurd e.2.2 c3
/-- WHAT WAS GOT: it can be put, as many bytes. -/
theorem put_get (xs : List Int) (h : ∀ x ∈ xs, 0 ≤ x ∧ x ≤ 255) (r fill : Int) (R : List A) (k : Int) (e : getOf xs = (R, k, 0)) : R.length ≤ 64 ∧ (encAll r fill R).length = xs.length ∧ xs.length ≤ 4096 ∧ ∀ a ∈ R, a.ok := by
  unfold getOf at e
  split at e
  · cases e
  · obtain ⟨more, m1, m2, m3, m4⟩ := getF_back xs h r fill xs.length 0 [] R k (by omega) (by omega) (by simp) e
    simp only [List.nil_append] at m1
    subst m1
    exact ⟨m2, by omega, by omega, m4⟩
theorem enc_data (r fill : Int) (a : A) (al : List A) (h : a ∈ al) : a.data.length ≤ (encAll r fill al).length := by
  induction al with
  | nil => cases h
  | cons b al ih =>
    rw [encAll_cons, List.length_append]
    rcases List.mem_cons.1 h with rfl | h
    · have := encG_length r fill a
      have := padN_bd a.data.length
      have := headN_bd (venB a)
      omega
    · have := ih h
      omega
/-- What Put answers. -/
def putOf (al : List A) : List Int × Int := if 64 < al.length ∨ 4096 < (encAll 0 0 al).length then ([], 4) else (encAll 0 0 al, 0)
end Go.Proofs.Ytjfponhdlfhmbaa.Avp
