/-
  avp.Put: the walk.
-/
import Derived.Test.YtjfponhdlfhmbaaPut1
import Derived.Test.YtjfponhdlfhmbaaOwn1
import Derived.Test.YtjfponhdlfhmbaaMonoT
import Derived.Test.YtjfponhdlfhmbaaPrps
namespace Go.Proofs.Ytjfponhdlfhmbaa.Avp
open Go.RowKit Mem Cells Avps Wire Ops
set_option linter.unusedVariables false
set_option linter.unusedSimpArgs false
attribute [local simp] Mono.DepFacts Mono.want Mono.isV Mono.anyV Mono.Fin Act.eval Act.put Region.binds

/-- The slot is a row of the call's own. -/
def rowP (B : Nat) (xs : List Int) : Mono.Prp := ⟨fun v u => Row .u8 5 B u v xs, fun _ _ _ h hb => h.below hb⟩
/-- What Put answers. -/
def PutIs (w : World) (R : List Int × Int) (e : Ending) (w' : World) : Prop :=
  ∃ v', e = .returned (.tuple #[v', .int .i64 R.2]) ∧ Row .u8 5 w.heap.size w' v' R.1 ∧ Below w.heap.size w w'
/-- How many bytes the first k attributes are. -/
def tot (al : List A) (k : Nat) : Int := (encAll 0 0 (al.take k)).length
theorem tot_zero (al : List A) : tot al 0 = 0 := by simp [tot, encAll]
theorem sizeN_enc (r fill : Int) (a : A) : ((encG r fill a).length : Int) = sizeN a := encG_length r fill a
theorem tot_succ (al : List A) (k : Nat) (x : A) (hx : al[k]? = some x) : tot al (k + 1) = tot al k + sizeN x := by
  obtain ⟨h1, e1⟩ := List.getElem?_eq_some_iff.1 hx
  unfold tot
  rw [List.take_succ_eq_append_getElem h1, encAll_append, e1, List.length_append, Int.natCast_add, ← sizeN_enc 0 0 x]
  simp [encAll]
theorem tot_le (al : List A) (k : Nat) : tot al k ≤ (encAll 0 0 al).length := by
  unfold tot
  conv => rhs; rw [← List.take_append_drop k al, encAll_append, List.length_append]
  omega
theorem tot_all (al : List A) (k : Nat) (h : al.length ≤ k) : tot al k = (encAll 0 0 al).length := by
  unfold tot; rw [List.take_of_length_le h]
theorem sizeN_bd (a : A) : 8 ≤ sizeN a ∧ (a.data.length : Int) ≤ sizeN a ∧ sizeN a ≤ a.data.length + 15 := by
  have := headN_bd (venB a)
  have := padN_bd a.data.length
  unfold sizeN; omega

theorem putted4_len (xs : List Int) (n : Int) : (putted xs n 4).length = xs.length + 4 := by unfold putted; simp [bytesOf_length]
theorem putted3_len (xs : List Int) (n : Int) : (putted xs n 3).length = xs.length + 3 := by unfold putted; simp [bytesOf_length]
theorem putted4 (xs : List Int) (n : Int) : putted xs n 4 = xs ++ bytesOf n 4 4 := by unfold putted; rw [if_pos (by omega)]; rfl
theorem putted3 (xs : List Int) (n : Int) : putted xs n 3 = xs ++ bytesOf n 3 3 := by unfold putted; rw [if_pos (by omega)]; rfl
theorem enc_step {al : List A} {k : Nat} {x : A} (hx : al[k]? = some x) : encAll 0 0 (al.take (k + 1)) = encAll 0 0 (al.take k) ++ encG 0 0 x := by
  obtain ⟨h1, e1⟩ := List.getElem?_eq_some_iff.1 hx
  rw [List.take_succ_eq_append_getElem h1, encAll_append, e1]
  simp [encAll]
set_option maxRecDepth 100000 in
set_option maxHeartbeats 3200000 in
theorem avpPut (v : Value) (al : List A) (w : World) (hr : ReadsL w v al) (hd : ∀ a ∈ al, a.ok ∧ a.data.length ≤ 140737488355300) : Calls Try.prog 8 #[v] w (PutIs w (putOf al)) := by
  obtain ⟨p, c, rfl, k1, k2⟩ := hr.shape
  by_cases hbig : 64 < al.length
  · have e1 : putOf al = ([], 4) := by unfold putOf; rw [if_pos (.inl hbig)]
    rw [e1]
    unfold maxLen at k2
    clear hr hd e1
    go_enter Try.func8, Try.ntmps8
    go_wp2_with fail
    go_ret2
    exact ⟨_, rfl, World.ownsRow_nil _ _ _ _, Below.refl _ _⟩
  · obtain ⟨R, hR⟩ : ∃ R, putOf al = R := ⟨_, rfl⟩
    rw [hR]
    have HRR := Lib.hid hR
    have HR := Lib.hid hr
    have HD := Lib.hid hd
    have hle : al.length ≤ 64 := by omega
    clear hr hd hR
    go_enter Try.func8, Try.ntmps8
    go_wp2_with fail
    go_loopw [4, 16] (fun u i wr => ∃ (k : Nat) (s : Int), u = .int .i64 s ∧ i = .int .i64 k ∧ k ≤ al.length ∧ 0 ≤ s ∧ s ≤ 4096 ∧ Below w.heap.size w wr ∧ Hid (s = tot al k)) (fun _ i _ => al.length - (intOf i).toNat)
    case atStart => exact ⟨0, 0, rfl, rfl, by omega, by omega, by omega, Below.refl _ _, Lib.hid (tot_zero al).symm⟩
    case round =>
      obtain ⟨k, s, rfl, rfl, hk, s0, s1, hbl, HS⟩ := hrel
      by_cases hlt : k < al.length
      · obtain ⟨x, hx1, hx2, b, off, c1, pd, nd, hv, _, _, hltb, hra, hrd⟩ := (HR.out.below hbl).elem k hlt
        cases hv
        obtain ⟨ox, hdx⟩ := HD.out x hx2
        have hsb := sizeN_bd x
        obtain ⟨sx, hsx⟩ : ∃ sx, sizeN x = sx := ⟨_, rfl⟩
        have SZ := Lib.hid (fun w => by have := size x pd nd w (by omega); rwa [hsx] at this)
        have hts := tot_succ al k x hx1
        have htl := tot_le al (k + 1)
        rw [hts, ← HS.out, hsx] at htl
        rw [hsx] at hsb hts
        have HT := Lib.hid hts
        have HRA := Lib.hid hra
        clear hx1 hx2 hra hsx hts ox hrd
        by_cases hov : 4096 < s + sx
        · have hRR : R = ([], 4) := by rw [← HRR.out]; unfold putOf; rw [if_pos (.inr (by omega))]
          have HR4 := Lib.hid hRR
          clear hRR htl
          go_wp2_with (first | ((with_reducible refine wpl_loadE rfl 41 (.tmp 18) rfl b (off + k * 5) ?_ (row x (.slice pd x.data.length nd)).toArray _ HRA.out Try.underlying41 rfl (by kernel_rfl) ?_); rfl; clear HRA) | ((with_reducible refine wpl_allocAt rfl 41 rfl zeroRow (by kernel_rfl) ?_); go_must (intro w1 hatw1 hbw1 hsw1; have HSw1 := Lib.hid hsw1; clear hsw1)) | ((with_reducible refine wpl_storeR rfl 41 (.tmp 6) (.tmp 19) rfl rfl wr.heap.size 41 zeroRow (row x (.slice pd x.data.length nd)).toArray ?_ ?_ hatw1 (by kernel_rfl) ?_ ?_ ?_); rfl; rfl; rfl; simp [row, Value.oneCell']; go_must (intro w2 hatw2 hgw2; have hbw2 := hbw1.grown hgw2 hbw1.size (fun q e => by cases e; exact Nat.le_refl _); clear hatw1 hgw2 hbw1)) | ((with_reducible refine wpl_loadAt rfl 41 (.tmp 6) rfl wr.heap.size 41 (row x (.slice pd x.data.length nd)).toArray hatw2 _ Try.underlying41 rfl (by kernel_rfl) ?_ ?_); rfl) | (go_at_call 18; (with_reducible refine (SZ.out _).mono ?_); go_must (rintro e w3 ⟨rfl, hbw3⟩; have hbl3 := hbl.trans ((hbw2.trans (hbw3.mono hbw2.size)).mono hbl.size); clear hbw2 hbw3 hatw2)))
          go_ret2
          rw [HR4.out]
          exact ⟨_, rfl, World.ownsRow_nil _ _ _ _, hbl3⟩
        · go_wp2_with (first | ((with_reducible refine wpl_loadE rfl 41 (.tmp 18) rfl b (off + k * 5) ?_ (row x (.slice pd x.data.length nd)).toArray _ HRA.out Try.underlying41 rfl (by kernel_rfl) ?_); rfl; clear HRA) | ((with_reducible refine wpl_allocAt rfl 41 rfl zeroRow (by kernel_rfl) ?_); go_must (intro w1 hatw1 hbw1 hsw1; have HSw1 := Lib.hid hsw1; clear hsw1)) | ((with_reducible refine wpl_storeR rfl 41 (.tmp 6) (.tmp 19) rfl rfl wr.heap.size 41 zeroRow (row x (.slice pd x.data.length nd)).toArray ?_ ?_ hatw1 (by kernel_rfl) ?_ ?_ ?_); rfl; rfl; rfl; simp [row, Value.oneCell']; go_must (intro w2 hatw2 hgw2; have hbw2 := hbw1.grown hgw2 hbw1.size (fun q e => by cases e; exact Nat.le_refl _); clear hatw1 hgw2 hbw1)) | ((with_reducible refine wpl_loadAt rfl 41 (.tmp 6) rfl wr.heap.size 41 (row x (.slice pd x.data.length nd)).toArray hatw2 _ Try.underlying41 rfl (by kernel_rfl) ?_ ?_); rfl) | (go_at_call 18; (with_reducible refine (SZ.out _).mono ?_); go_must (rintro e w3 ⟨rfl, hbw3⟩; have hbl3 := hbl.trans ((hbw2.trans (hbw3.mono hbw2.size)).mono hbl.size); clear hbw2 hbw3 hatw2)))
          go_roundw
          case rel => exact ⟨k + 1, s + sx, rfl, by go_num, by omega, by omega, by omega, hbl3, Lib.hid (by rw [HT.out, ← HS.out])⟩
          case measure => simp [intOf]; omega
      · obtain rfl : k = al.length := by omega
        have hts := tot_all al al.length (Nat.le_refl _)
        rw [← HS.out] at hts
        have hRR : R = (encAll 0 0 al, 0) := by rw [← HRR.out]; unfold putOf; rw [if_neg (by omega)]
        have HR4 := Lib.hid hRR
        have htl : (encAll 0 0 al).length ≤ 4096 := by omega
        clear hRR hts HS HRR hlt hk
        go_wp2_with fail
        obtain ⟨wo, rfl⟩ : ∃ wo : World, wo = wr := ⟨_, rfl⟩
        go_loopw [7, 29] (fun u i wr => ∃ (k : Nat) (out : List Int), i = .int .i64 k ∧ k ≤ al.length ∧ Row .u8 5 w.heap.size wr u out ∧ Below w.heap.size w wr ∧ Hid (out = encAll 0 0 (al.take k))) (fun _ i _ => al.length - (intOf i).toNat)
        case atStart => exact ⟨0, [], rfl, by omega, World.ownsRow_nil _ _ _ _, hbl, Lib.hid rfl⟩
        case round =>
          obtain ⟨k, out, rfl, hk, hown, hbl, HO⟩ := hrel
          by_cases hlt : k < al.length
          · obtain ⟨x, hx1, hx2, b, off, c1, pd, nd, hv, _, _, hltb, hra, hrd⟩ := (HR.out.below hbl).elem k hlt
            cases hv
            obtain ⟨⟨oc, ov, od⟩, hdx⟩ := HD.out x hx2
            have hts := tot_succ al k x hx1
            have htl2 := tot_le al (k + 1)
            have htk : tot al k = out.length := by rw [HO.out]; rfl
            have hsb := sizeN_bd x
            have hol : (out.length : Int) ≤ 4096 := by omega
            have hxl : (x.data.length : Int) ≤ 4096 := by omega
            obtain ⟨bv, hbv⟩ : ∃ bv, venB x = bv := ⟨_, rfl⟩
            have hne : (x.vendor != 0) = bv := by rw [← hbv]; unfold venB; by_cases h : x.vendor = 0 <;> simp [h]
            obtain ⟨hn, hhn⟩ : ∃ hn, headN bv = hn := ⟨_, rfl⟩
            have hhb := headN_bd bv
            rw [hhn] at hhb
            obtain ⟨fv, hfv⟩ : ∃ fv : Int, (if bv then 128 else 0) = fv := ⟨_, rfl⟩
            obtain ⟨fm, hfm⟩ : ∃ fm : Int, (if x.must then 64 else 0) = fm := ⟨_, rfl⟩
            obtain ⟨fp, hfp⟩ : ∃ fp : Int, (if x.prot then 32 else 0) = fp := ⟨_, rfl⟩
            have hor1 : bits .or .u8 fv fm = fv + fm := by rw [← hfv, ← hfm]; cases bv <;> cases x.must <;> decide +kernel
            have hor2 : bits .or .u8 (fv + fm) fp = fv + fm + fp := by rw [← hfv, ← hfm, ← hfp]; cases bv <;> cases x.must <;> cases x.prot <;> decide +kernel
            have hflag : flagN x + 0 = fv + fm + fp := by unfold flagN; rw [hbv, hfv, hfm, hfp]; omega
            have PU := Lib.hid (fun v (ys : List Int) (n : Int) w (hn : 0 ≤ n ∧ n ≤ 18446744073709551615) (hr : Reads .u8 w v ys) (hb : ys.length ≤ 140737488355300) => put v ys n 4 w hn hr hb)
            have PU3 := Lib.hid (fun v (ys : List Int) (n : Int) w (hn : 0 ≤ n ∧ n ≤ 18446744073709551615) (hr : Reads .u8 w v ys) (hb : ys.length ≤ 140737488355300) => put v ys n 3 w hn hr hb)
            have B1 := Lib.hid (fun w => by have := bit bv 128 w (by omega); rwa [hfv] at this)
            have B2 := Lib.hid (fun w => by have := bit x.must 64 w (by omega); rwa [hfm] at this)
            have B3 := Lib.hid (fun w => by have := bit x.prot 32 w (by omega); rwa [hfp] at this)
            have HDN := Lib.hid (fun w => by have := head bv w; rwa [hhn] at this)
            have HRA := Lib.hid hra
            have HX := Lib.hid hx1
            have HFL := Lib.hid hflag
            have HBV := Lib.hid hbv
            have HHN := Lib.hid hhn
            have HOR1 := Lib.hid hor1
            have HOR2 := Lib.hid hor2
            have HHB := Lib.hid hhb
            obtain ⟨pu, cu, rfl, _, _, _, _⟩ := id hown.reads
            clear hx1 hx2 hra hts htl2 htk hsb hbv hhn hfv hfm hfp hor1 hor2 hflag
            go_wp2_with (first | ((with_reducible refine wpl_loadE rfl 41 (.tmp 31) rfl b (off + k * 5) ?_ (row x (.slice pd x.data.length nd)).toArray _ HRA.out Try.underlying41 rfl (by kernel_rfl) ?_); rfl; clear HRA) | ((with_reducible refine wpl_allocAt rfl 41 rfl zeroRow (by kernel_rfl) ?_); go_must (intro w1 hatw1 hbw1 hsw1; have HSw1 := Lib.hid hsw1; clear hsw1)) | ((with_reducible refine wpl_storeR rfl 41 (.tmp 9) (.tmp 32) rfl rfl wr.heap.size 41 zeroRow (row x (.slice pd x.data.length nd)).toArray ?_ ?_ hatw1 (by kernel_rfl) ?_ ?_ ?_); rfl; rfl; rfl; simp [row, Value.oneCell']; go_must (intro w2 hatw2 hgw2; have hbw2 := hbw1.grown hgw2 hbw1.size (fun q e => by cases e; exact Nat.le_refl _); have c1 := hatw2.cell 1; simp [row] at c1; clear hatw1 hgw2 hbw1)))
            have hr2 := hown.reads.below hbw2
            have hor1 := HOR1.out
            have hor2 := HOR2.out
            refine Mono.wp_region_monoT 16 [some 36, some 37, some 38, some 39, some 40, some 41, some 42, some 43, some 44, some 45, some 46, some 47, some 48, some 49, some 50, some 51] [Mono.isV (.slice pu out.length cu), Mono.isV (.pointer (some ⟨wr.heap.size, 0, none⟩)), Mono.isV (.int .u32 x.code), Mono.isV (.int .u64 x.code), rowP w2.heap.size (putted out x.code 4), Mono.isV (.bool bv), Mono.isV (.int .u8 fv), Mono.isV (.pointer (some ⟨wr.heap.size, 2, none⟩)), Mono.isV (.bool x.must), Mono.isV (.int .u8 fm), Mono.isV (.int .u8 (fv + fm)), Mono.isV (.pointer (some ⟨wr.heap.size, 3, none⟩)), Mono.isV (.bool x.prot), Mono.isV (.int .u8 fp), Mono.isV (.int .u8 (fv + fm + fp)), readsP .u8 [fv + fm + fp]] (by kernel_rfl) (by kernel_rfl) ?_ ?_
            · simp only [Mono.OpGoals, List.take_succ_cons, List.take_zero, and_true]
              refine ⟨?_, ?_, ?_, ?_, ?_, ?_, ?_, ?_, ?_, ?_, ?_, ?_, ?_, ?_, ?_, ?_⟩
              all_goals
                intro a u hbu hsu hdu
                have hru := hr2.below hbu
                have hau := hatw2.ext hbu
                have d0 := hau.cell 0
                have d2 := hau.cell 2
                have d3 := hau.cell 3
                simp [row] at d0 d2 d3
                simp at hdu hsu
                simp [*, rowP, readsP]
                go_wp2_with (first | (go_at_call 19; refine (PU.out _ _ _ _ (by omega) hru (by omega)).mono ?_; rintro e w9 ⟨v9, rfl, ho9, hb9⟩) | (go_at_call 20; refine (B1.out _).mono ?_; rintro e w9 ⟨rfl, rfl⟩) | (go_at_call 20; refine (B2.out _).mono ?_; rintro e w9 ⟨rfl, rfl⟩) | (go_at_call 20; refine (B3.out _).mono ?_; rintro e w9 ⟨rfl, rfl⟩))
              all_goals first
                | exact Below.refl _ _
                | exact ⟨trivial, Below.refl _ _⟩
                | exact ⟨v9, rfl, ho9.mono hbu.size⟩
                | exact ⟨_, rfl, (Below.refl _ _).alloc (Nat.le_refl _) _, Reads.one _ _ _ _⟩
            · intro u hu
              simp [rowP, readsP]
              intro v4 hv4 v5 hv5
              have hl1 := putted4_len out x.code
              have K1 : (putted out x.code 4).length + [fv + fm + fp].length ≤ maxLen := by simp [maxLen]; omega
              have K2 : ((putted out x.code 4).length + [fv + fm + fp].length) * 1 ≤ 140737488355328 := by simp; omega
              obtain ⟨L2, hL2⟩ : ∃ L2, putted out x.code 4 ++ [fv + fm + fp] = L2 := ⟨_, rfl⟩
              have hl2 : (L2.length : Int) ≤ 4200 := by rw [← hL2]; simp; omega
              have HL1 := Lib.hid hl1
              have HL2 := Lib.hid hL2
              clear hl1 hL2 B1 B2 B3 hr2 hor1 hor2 HOR1 HOR2
              go_wp2_with (at_builtin; go_must (obtain ⟨i0, hi, hz0, hz1, hz2⟩ := info_parts info5; refine wpl_append rfl (.tmp 40) (.tmp 51) 23 rfl .u8 w2.heap.size 5 1 i0 (.int .u8 0) Try.underlying23 hi hz0 hz1 hz2 rfl v4 v5 _ _ rfl rfl hv4 hv5 K1 K2 hu.size ?_; clear hi hz0 hz1 hz2; intro v6 w6 hv6 hg6; rw [HL2.out] at hv6; have hu6 := hu.grown hg6 hu.size (fun q e => (hv4.lt q e).1); clear hv4 hv5 hg6 hu K1 K2))
              have hhb2 := HHB.out
              have hat6 := hatw2.ext hu6
              have c4 := hat6.cell 4
              simp [row] at c4
              have s1 : IntKind.i64.wrap (hn + (x.data.length : Int)) = hn + x.data.length := IntWalk.i64_in _ (by omega)
              have s2 : IntKind.u64.wrap (hn + (x.data.length : Int)) = hn + x.data.length := by rw [IntKind.wrap_u64]; omega
              refine wp_region_still_tail 8 (by kernel_rfl) (by kernel_rfl) ?_
              simp only [List.take_succ_cons, List.take_zero, List.drop_succ_cons, List.drop_zero]
              iterate 2 still_step
              still_call (HDN.out _)
              iterate 5 still_step
              refine wpStill_nil ?_
              change wpList _ _ _ _ _ w6.drew
              have hu7 := hu6.drew
              have hr7 := hv6.reads.below (Frame.ext_drew w6)
              generalize w6.drew = w7 at hu7 hr7
              clear hu6 hv6 hat6 c4
              obtain ⟨L3, hL3⟩ : ∃ L3, putted L2 (hn + x.data.length) 3 = L3 := ⟨_, rfl⟩
              have hl3 : (L3.length : Int) ≤ 4210 := by rw [← hL3, putted3_len]; omega
              have HL3 := Lib.hid hL3
              have hw72 := hu7.size
              have hwb := hbl.size
              have hwb2 := hbw2.size
              have PDD := Lib.hid (fun v w (hr : Reads .u8 w v x.data) => padded v x.data w hr (by omega))
              obtain ⟨pz, hpz⟩ : ∃ pz, paddedOf x.data = pz := ⟨_, rfl⟩
              have hpl : (pz.length : Int) ≤ 4100 := by rw [← hpz]; have := padN_bd x.data.length; unfold paddedOf; simp; omega
              have HPZ := Lib.hid hpz
              clear hL3 hpz
              cases bv
              case false =>
                have K1 : L3.length + pz.length ≤ maxLen := by simp [maxLen]; omega
                have K2 : (L3.length + pz.length) * 1 ≤ 140737488355328 := by simp; omega
                go_wp2_with (first | (go_at_call 19; have _t := hr7; clear _t; go_must (refine (PU3.out _ L2 (hn + x.data.length) _ (by omega) hr7 (by omega)).mono ?_; rintro e w8 ⟨v8, rfl, ho8, hb8⟩; rw [HL3.out] at ho8; have ho8' := ho8.mono hw72; have hu8 := hu7.trans (hb8.mono hw72); have c4 := (hatw2.ext hu8).cell 4; have c1 := (hatw2.ext hu8).cell 1; simp [row] at c4 c1; clear hr7 hu7 hb8 ho8; have hrd8 := (hrd.below hbw2).below hu8)) | (go_at_call 22; go_must (refine (PDD.out _ _ hrd8).mono ?_; rintro e w10 ⟨v10, rfl, ho10, hb10⟩; rw [HPZ.out] at ho10; have ho8b := ho8'.below hb10; have hr10 := ho10.reads; have hu10 := hu8.trans (hb10.mono hu8.size); clear hrd8 ho8' ho10 hb10 hu8)) | (at_builtin; have _t := hr10; clear _t; go_must (obtain ⟨i0, hi, hz0, hz1, hz2⟩ := info_parts info5; refine wpl_append rfl (.tmp 68) (.tmp 71) 23 rfl .u8 w2.heap.size 5 1 i0 (.int .u8 0) Try.underlying23 hi hz0 hz1 hz2 rfl v8 v10 L3 pz rfl rfl ho8b hr10 K1 K2 hu10.size ?_; clear hi hz0 hz1 hz2; intro v11 w11 hv11 hg11; have hu11 := hu10.grown hg11 hu10.size (fun q e => (ho8b.lt q e).1); clear ho8b hr10 hg11 hu10)))
                go_roundw
                case rel =>
                  refine ⟨k + 1, _, by go_num, by omega, hv11.mono (by omega), hbl.trans ((hbw2.trans (hu11.mono hbw2.size)).mono hbl.size), Lib.hid ?_⟩
                  rw [enc_step HX.out, ← HO.out, ← HPZ.out, ← HL3.out, ← HL2.out]
                  unfold encG paddedOf
                  rw [HFL.out, HBV.out, HHN.out, putted4, putted3]
                  simp
                case measure => simp [intOf]; omega
              case true =>
                obtain ⟨L4, hL4⟩ : ∃ L4, putted L3 x.vendor 4 = L4 := ⟨_, rfl⟩
                have hl4 : (L4.length : Int) ≤ 4220 := by rw [← hL4, putted4_len]; omega
                have HL4 := Lib.hid hL4
                clear hL4
                have K1 : L4.length + pz.length ≤ maxLen := by simp [maxLen]; omega
                have K2 : (L4.length + pz.length) * 1 ≤ 140737488355328 := by simp; omega
                go_wp2_with (first | (go_at_call 19; have _t := hr7; clear _t; go_must (refine (PU3.out _ L2 (hn + x.data.length) _ (by omega) hr7 (by omega)).mono ?_; rintro e w8 ⟨v8, rfl, ho8, hb8⟩; rw [HL3.out] at ho8; have ho8' := ho8.mono hw72; have hu8 := hu7.trans (hb8.mono hw72); have c4 := (hatw2.ext hu8).cell 4; have c1 := (hatw2.ext hu8).cell 1; simp [row] at c4 c1; clear hr7 hu7 hb8 ho8; have hv8 := ho8'.reads; have hw82 := hu8.size)) | (go_at_call 19; have _t := hv8; clear _t; go_must (refine (PU.out _ L3 x.vendor _ (by omega) hv8 (by omega)).mono ?_; rintro e w9 ⟨v9, rfl, ho9, hb9⟩; rw [HL4.out] at ho9; have ho9' := ho9.mono hw82; have hu9 := hu8.trans (hb9.mono hw82); have c4' := (hatw2.ext hu9).cell 4; simp [row] at c4'; have hrd9 := (hrd.below hbw2).below hu9; clear hv8 hu8 hb9 ho9)) | (go_at_call 22; go_must (refine (PDD.out _ _ hrd9).mono ?_; rintro e w10 ⟨v10, rfl, ho10, hb10⟩; rw [HPZ.out] at ho10; have ho9b := ho9'.below hb10; have hr10 := ho10.reads; have hu10 := hu9.trans (hb10.mono hu9.size); clear hrd9 ho9' ho10 hb10 hu9)) | (at_builtin; have _t := hr10; clear _t; go_must (obtain ⟨i0, hi, hz0, hz1, hz2⟩ := info_parts info5; refine wpl_append rfl (.tmp 68) (.tmp 71) 23 rfl .u8 w2.heap.size 5 1 i0 (.int .u8 0) Try.underlying23 hi hz0 hz1 hz2 rfl v9 v10 L4 pz rfl rfl ho9b hr10 K1 K2 hu10.size ?_; clear hi hz0 hz1 hz2; intro v11 w11 hv11 hg11; have hu11 := hu10.grown hg11 hu10.size (fun q e => (ho9b.lt q e).1); clear ho9b hr10 hg11 hu10)))
                go_roundw
                case rel =>
                  refine ⟨k + 1, _, by go_num, by omega, hv11.mono (by omega), hbl.trans ((hbw2.trans (hu11.mono hbw2.size)).mono hbl.size), Lib.hid ?_⟩
                  rw [enc_step HX.out, ← HO.out, ← HPZ.out, ← HL4.out, ← HL3.out, ← HL2.out]
                  unfold encG paddedOf
                  rw [HFL.out, HBV.out, HHN.out, putted4, putted3, putted4]
                  simp
                case measure => simp [intOf]; omega
          · obtain rfl : k = al.length := by omega
            rw [List.take_length] at HO
            go_wp2_with fail
            go_ret2
            rw [HR4.out]
            refine ⟨_, rfl, ?_, hbl⟩
            have e := HO.out
            subst e
            exact hown
end Go.Proofs.Ytjfponhdlfhmbaa.Avp
