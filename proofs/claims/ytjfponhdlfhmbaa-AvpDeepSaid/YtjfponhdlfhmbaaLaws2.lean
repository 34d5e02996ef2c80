/-
  The laws AvpPuts and AvpGets: the walks.
-/
import Derived.Test.YtjfponhdlfhmbaaLaws1
namespace Go.Proofs.Ytjfponhdlfhmbaa.Avp
open Go.RowKit Mem Cells Avps Wire Ops
set_option linter.unusedVariables false
set_option linter.unusedSimpArgs false

theorem putOf_take (al : List A) : putOf (al.take 200) = putOf al := by
  by_cases h : al.length ≤ 200
  · rw [List.take_of_length_le h]
  · unfold putOf
    rw [if_pos (.inl (by rw [List.length_take]; omega)), if_pos (.inl (by omega))]
set_option maxRecDepth 100000 in
set_option maxHeartbeats 1600000 in
theorem puts (v : Value) (al : List A) (w : World) (hr : ReadsL w v al) (hok : ∀ a ∈ al, a.ok) (hd : ∀ a ∈ al, a.data.length ≤ 140737488351232) : Calls Try.prog 3 #[v] w fun e w' => e = .returned (.bool true) ∧ Below w.heap.size w w' := by
  have PO := Lib.hid (own v al w hr (fun a ha => by have := hd a ha; omega))
  have PP := Lib.hid (fun v u (h : ReadsL u v (al.take 200)) => (putOf_take al) ▸ avpPut v (al.take 200) u h (fun a ha => ⟨hok a (List.mem_of_mem_take ha), by have := hd a (List.mem_of_mem_take ha); omega⟩))
  have PR := Lib.hid (fun u (h : ReadsL u v al) => refPutAll v al u h (fun a ha => ⟨hok a ha, by have := hd a ha; omega⟩))
  obtain ⟨R, hR⟩ : ∃ R, putOf al = R := ⟨_, rfl⟩
  obtain ⟨bs, er⟩ := R
  rw [hR] at PP PR
  clear hR hok hd
  go_enter Try.func3, Try.ntmps3
  go_wp2_with (first
    | (go_at_call 9; go_must (refine PO.out.mono ?_; rintro e w1 ⟨v1, rfl, hv1, hb1⟩))
    | (go_at_call 8; go_must (refine (PP.out _ _ hv1.reads).mono ?_; rintro e w2 ⟨v2, rfl, hv2, hb2⟩; have hb12 := hb1.trans (hb2.mono hb1.size)))
    | (go_at_call 10; go_must (refine (PR.out _ (hr.below hb12)).mono ?_; rintro e w3 ⟨v3, rfl, hv3, hb3⟩))
    | (go_at_call 11; go_must (refine (answers _).mono ?_; rintro e w4 ⟨rfl, hb4⟩; have hs2 := string23 ((hv2.reads.below hb3).below hb4); have hs3 := string23 (hv3.reads.below hb4); have hb := (hb12.trans (hb3.mono hb12.size)).trans (hb4.mono (hb12.trans (hb3.mono hb12.size)).size); clear hv1 hv2 hv3)))
  go_ret
  exact ⟨rfl, hb⟩
end Go.Proofs.Ytjfponhdlfhmbaa.Avp
