/-
  Contract: Find where the only one is too old; the law DupKeeps: the walk.
-/
import Derived.Test.YtmbhiajhlfjknaaDup7
import Derived.Test.YtmbhiajhlfjknaaNil1
namespace Go.Proofs.Ytmbhiajhlfjknaa.Dup
open Go.RowKit Mem Cells Ops
set_option linter.unusedVariables false
set_option linter.unusedSimpArgs false

theorem But2.thenBelow {S g : Nat} {w x y : World} (h : But2 S g w x) (hb : Below x.heap.size x y) : But2 S g w y :=
  ⟨hb.os.trans h.os, hb.tape.trans h.tape, hb.output.trans h.output, Nat.le_trans h.size hb.size, fun j hj h1 h2 => (hb.block j (Nat.lt_of_lt_of_le hj h.size)).trans (h.block j hj h1 h2)⟩
set_option maxRecDepth 100000 in
set_option maxHeartbeats 800000 in
theorem FindOld {B S g c : Nat} {w : World} {window most last : Int} {p : Option Addr} {k : K} (h : Has B w S window most last p c [k]) (hg : (Value.slice p 1 c).ownBlock = some g) (hSg : S ≠ g) (host : ByteArray) (fin now : Int) (hnow : i64 now) (hold : oldB now window k = true) :
    Calls Try.prog 9 #[.pointer (some ⟨S, 0, none⟩), .string host, .int .u32 fin, .int .i64 now] w fun e w' => e = .returned (.tuple #[.slice none 0 0, .bool false]) ∧ Has B w' S window most last p c [] ∧ But2 S g w w' := by
  have PA := Lib.hid (ageOne h hg hSg now hnow hold)
  clear h hg hnow hold
  go_enter Try.func9, Try.ntmps9
  go_wp2_with (first
    | (go_at_call 11; go_must (refine PA.out.mono ?_; rintro e u1 ⟨rfl, hH, hu⟩))
    | (go_at_call 12; go_must (refine (find hH host fin).mono ?_; rw [show posI (hitB host fin) [] = -1 from rfl]; rintro e u2 ⟨rfl, hb⟩)))
  go_ret2
  exact ⟨rfl, hH.below hb, hu.thenBelow hb⟩
/-- The list's own block. -/
theorem OwnK.block1 {B : Nat} {w : World} {p : Option Addr} {c : Nat} {k : K} (h : OwnK B w (.slice p 1 c) [k]) : ∃ g, (Value.slice p 1 c).ownBlock = some g ∧ B ≤ g := by
  have := h.lt
  obtain ⟨zs, p', c', ee, h2, h3, h4, h5, h6⟩ := h
  cases ee
  rcases h6 with ⟨_, rfl⟩ | ⟨g, off, cur, rfl, hB, hat, hsz, hnb, hc⟩
  · simp at h3
  · exact ⟨g, rfl, hB⟩
theorem string24 {w : World} {v : Value} {xs : List Int} (hr : Reads .u8 w v xs) : (convert 24 9 v).run Try.prog w = .ok (.string (strOfNums xs)) w :=
  run_string 24 9 5 Try.underlying24 Try.underlying5 Try.underlying9 hr
theorem hit_z (host : ByteArray) (fin at_ : Int) (xs : List Int) : hitB (host ++ ⟨#[122]⟩) fin ⟨host, fin, at_, xs⟩ = false := by
  have : ¬ host.toList = (host ++ (⟨#[122]⟩ : ByteArray)).toList := by
    intro e
    have := congrArg List.length e
    rw [ByteArray.toList_eq, ByteArray.toList_eq] at this
    simp at this
  simp [hitB, this]
theorem info5' : (Try.prog.info? 5).map (fun i => (i.zero, i.size, i.bytes)) = some (some (.int .u8 0), 1, 1) := by kernel_rfl
set_option maxRecDepth 100000 in
set_option maxHeartbeats 3200000 in
theorem keeps_ (win at_ d : Int) (host : ByteArray) (fin : Int) (pb pc : Option Addr) (lb lc cb cc : Nat) (xs ys : List Int) (w : World) (hwin : 0 ≤ win ∧ win ≤ 65535) (hat : 0 ≤ at_ ∧ at_ ≤ 65535) (hd : 0 ≤ d ∧ d ≤ 65535) (hf : 0 ≤ fin ∧ fin ≤ 4294967295)
    (hb : Reads .u8 w (.slice pb lb cb) xs) (hc : Reads .u8 w (.slice pc lc cc) ys) (hxl : xs.length ≤ 140737488355300) (hyl : ys.length ≤ 140737488355300) (hhl : host.size ≤ 140737488355300) :
    Calls Try.prog 3 #[.int .u16 win, .int .u16 at_, .int .u16 d, .string host, .int .u32 fin, .slice pb lb cb, .slice pc lc cc] w fun e w' => e = .returned (.bool true) ∧ Below w.heap.size w w' := by
  obtain ⟨i0, hi, hz0, hz1, hz2⟩ := info_parts info5'
  have PN := Lib.hid (New (win + 1) 4 w (by omega) (by omega))
  have HB := Lib.hid hb
  have HC := Lib.hid hc
  have OLD := Lib.hid (show ∀ k ∈ [(⟨host, fin, at_, xs⟩ : K)], oldB at_ (win + 1) k = false from fun k hk => by rw [List.mem_singleton] at hk; subst hk; exact old_at _ _ _ (.inl (by simp)))
  have PL := Lib.hid (show place (hitB host fin) [⟨host, fin, at_, xs⟩] = 0 from by unfold place; simp [List.findIdx_cons, hitB])
  have FK := Lib.hid (show findK host fin [⟨host, fin, at_, xs⟩] = (xs, true) by unfold findK; rw [PL.out]; rfl)
  have FZ := Lib.hid (show findK (host ++ ⟨#[122]⟩) fin [⟨host, fin, at_, xs⟩] = ([], false) by
    have : place (hitB (host ++ ⟨#[122]⟩) fin) [⟨host, fin, at_, xs⟩] = 1 := by unfold place; simp [List.findIdx_cons, hit_z]
    unfold findK
    rw [this]
    rfl)
  clear hb hc
  go_enter Try.func3, Try.ntmps3
  go_upto_region 8 with (first
    | (go_at_call 6; go_must (refine PN.out.mono ?_; rintro e w1 ⟨rfl, hH, hb1, hs1⟩; clear hs1))
    | (go_at_call 7; go_must (refine (answers _).mono ?_; rintro e w2 ⟨rfl, hb⟩; have hu := hb1.trans (hb.mono hb1.size); have hH2 := (hH 0).below hb; clear hb1 hH hb; have hz := (Below.refl w2.heap.size w2).alloc (Nat.le_refl _) (.cells #[] 5); have hown : Row .u8 5 w2.heap.size (w2.alloc (.cells #[] 5)) (.slice (some ⟨w2.heap.size, 0, none⟩) 0 0) [] := Row.alloc_nil .u8 5 w2 (Nat.le_refl _); have hr2 := (HB.out.below hu).below hz))
    | (at_builtin; refine wpl_append rfl _ _ 24 rfl .u8 w2.heap.size 5 1 i0 (.int .u8 0) Try.underlying24 hi hz0 hz1 hz2 rfl _ _ [] xs rfl rfl hown hr2 ?_ ?_ ?_ ?_; (unfold maxLen; simp; omega); (simp; omega); (simp); go_must (intro v3 w3 hv3 hg; have hz3 := below_grown (g := w2.heap.size) hz hg (by simp) (Nat.le_refl _); rw [List.nil_append] at hv3; have hu3 := hu.trans (hz3.mono hu.size); have hH3 := hH2.below hz3; clear hz hown hr2 hg hH2))
    | (go_at_call 8; have _t := hH3; clear _t; go_must (refine (putFirst hH3 host fin at_ _ xs hv3.reads (by omega) hf (by omega) (by omega) (by omega)).mono ?_; rintro e w4 ⟨rfl, ⟨p4, c4, hH4⟩, hg⟩; have hH3S := hH3.row.lt; have hu4 := below_grown hu3 hg hu3.size (by have := hu.size; omega); have hz := (Below.refl w4.heap.size w4).alloc (Nat.le_refl _) (.cells #[] 5); have hown : Row .u8 5 w4.heap.size (w4.alloc (.cells #[] 5)) (.slice (some ⟨w4.heap.size, 0, none⟩) 0 0) [] := Row.alloc_nil .u8 5 w4 (Nat.le_refl _); have hr2 := (HC.out.below hu4).below hz; clear hg hH3 hv3))
    | (at_builtin; refine wpl_wanted rfl ?_; refine wpl_append rfl _ _ 24 rfl .u8 w4.heap.size 5 1 i0 (.int .u8 0) Try.underlying24 hi hz0 hz1 hz2 rfl _ _ [] ys rfl rfl hown hr2 ?_ ?_ ?_ ?_; (unfold maxLen; simp; omega); (simp; omega); (simp); go_must (intro v5 w5 hv5 hg; have hz5 := below_grown (g := w4.heap.size) hz hg (by simp) (Nat.le_refl _); have hu5 := hu4.trans (hz5.mono hu4.size); have hH5 := hH4.below hz5; clear hz hown hr2 hg hH4))
    | (go_at_call 8; go_must (refine (putThere hH5 host fin at_ _ ⟨by omega, by omega⟩ OLD.out (by rw [PL.out]; simp)).mono ?_; rintro e w6 ⟨rfl, hb⟩; have hu6 := hu5.trans (hb.mono hu5.size); have hH6 := hH5.below hb; clear hH5 hb)))
  obtain ⟨g, eg, hgB⟩ := hH6.own.block1
  have l3 := hu3.size
  have hSg : w.heap.size ≠ g := by have := hH3S; omega
  by_cases hle : d ≤ win + 1
  · have O2 := Lib.hid (show ∀ k ∈ [(⟨host, fin, at_, xs⟩ : K)], oldB (at_ + d) (win + 1) k = false from fun k hk => by rw [List.mem_singleton] at hk; subst hk; exact old_at _ _ _ (.inr (by simp; omega)))
    have S1 := Lib.hid (rfl : w = w)
    go_wp2_with (first
      | (go_at_call 9; have _t := S1; clear _t; go_must (have PF := Find hH6 host fin (at_ + d) ⟨by omega, by omega⟩ O2.out; rw [FK.out] at PF; refine PF.mono ?_; clear PF S1; rintro e w7 ⟨v7, rfl, hr7, hb7⟩; have hr7' : Row .u8 5 w6.heap.size w7 v7 xs := hr7; clear hr7; have hH7 := hH6.below hb7; have hu7 := hu6.trans (hb7.mono hu6.size); have s1 := string24 hr7'.reads; have s2 := string24 (HB.out.below hu7)))
      | (go_at_call 9; go_must (have PF := Find hH7 (host ++ ⟨#[122]⟩) fin at_ ⟨by omega, by omega⟩ OLD.out; rw [FZ.out] at PF; refine PF.mono ?_; clear PF; rintro e w8 ⟨v8, rfl, hr8, hb8⟩; have hu8 := hu7.trans (hb8.mono hu7.size))))
    go_ret
    exact ⟨rfl, hu8⟩
  · have O2 := Lib.hid (show oldB (at_ + d) (win + 1) ⟨host, fin, at_, xs⟩ = true by unfold oldB; apply decide_eq_true; simp; omega)
    have S1 := Lib.hid (rfl : w = w)
    go_wp2_with (first
      | (go_at_call 9; have _t := S1; clear _t; go_must (refine (FindOld hH6 eg hSg host fin (at_ + d) ⟨by omega, by omega⟩ O2.out).mono ?_; clear S1; rintro e w7 ⟨rfl, hH7, h7⟩; have hu7 := hu6.trans (h7.below hu6.size (Nat.le_refl _) (by omega))))
      | (go_at_call 9; go_must (have PF := Find hH7 (host ++ ⟨#[122]⟩) fin at_ ⟨by omega, by omega⟩ (fun k hk => by cases hk); rw [show findK (host ++ ⟨#[122]⟩) fin [] = ([], false) from rfl] at PF; refine PF.mono ?_; clear PF; rintro e w8 ⟨v8, rfl, hr8, hb8⟩; have hu8 := hu7.trans (hb8.mono hu7.size))))
    go_ret
    exact ⟨rfl, hu8⟩
end Go.Proofs.Ytmbhiajhlfjknaa.Dup
namespace Go.Proofs.Ytmbhiajhlfjknaa.Frame
theorem len7 {α : Type} {l : List α} (h : l.length = 7) : ∃ a b c d e f g, l = [a, b, c, d, e, f, g] := by
  match l, h with
  | [a, b, c, d, e, f, g], _ => exact ⟨a, b, c, d, e, f, g, rfl⟩
end Go.Proofs.Ytmbhiajhlfjknaa.Frame
