/-
  slices.DeleteFunc where the only one is too old.
-/
import Derived.Test.YtmbhiajhlfjknaaDup5
namespace Go.Proofs.Ytmbhiajhlfjknaa.Dup
open Go.RowKit Mem Cells Ops
set_option linter.unusedVariables false
set_option linter.unusedSimpArgs false

set_option maxRecDepth 100000 in
set_option maxHeartbeats 800000 in
theorem delOne (p : Option Addr) (x : K) (B : Nat) (now window most last : Int) (v0 : Value) (c gn gs S : Nat) (w : World) (hr : OwnK B w (.slice p 1 c) [x]) (hok : x.ok) (hnow : i64 now) (hwin : 0 ≤ window ∧ window ≤ 1048576)
    (hn : At w gn 3 #[.int .i64 now]) (hs : At w gs 25 #[.pointer (some ⟨S, 0, none⟩)]) (hS : At w S 39 #[.int .i64 window, .int .i64 most, v0, .int .i64 last]) (hold : oldB now window x = true) :
    Calls Try.prog 14 #[.slice p 1 c, .func (.func 15) #[] #[.pointer (some ⟨gn, 0, none⟩), .pointer (some ⟨gs, 0, none⟩)]] w fun e w' => ∃ g, (Value.slice p 1 c).ownBlock = some g ∧ e = .returned (.slice p 0 c) ∧ OwnK B w' (.slice p 0 c) [] ∧ w.grownBy w' (some g) := by
  have PI := Lib.hid (by have := indexOld _ [x] B now window most last v0 gn gs S w hr (fun k hk => by rw [List.mem_singleton] at hk; subst hk; exact hok) hnow hwin hn hs hS; rwa [show posI (oldB now window) [x] = 0 from by unfold posI place; simp [List.findIdx_cons, hold]] at this)
  obtain ⟨zs, p', c', ee, h2, h3, h4, h5, h6⟩ := hr
  cases ee
  rcases h6 with ⟨_, rfl⟩ | ⟨g, off, cur, rfl, hB, hat, hsz, hnb, hc⟩
  · simp at h3
  have hc1 : 1 ≤ c := h3
  clear hnow hwin hn hs hS hold h5 hc
  go_enter Try.func14, Try.ntmps14
  go_wp2_with (go_at_call 16; go_must (refine PI.out.mono ?_; rintro e u ⟨rfl, hb⟩))
  go_loopw [5, 6] (fun i j wr => i = .int .i64 0 ∧ j = .int .i64 1 ∧ wr = u) (fun _ _ _ => 0)
  case atStart => exact ⟨rfl, rfl, rfl⟩
  case round =>
    obtain ⟨rfl, rfl, rfl⟩ := hrel
    obtain ⟨wz, cur', hcl, hat', hn', hs', hg⟩ := run_clear1 wr 0 g off c cur (hat.ext hb) hnb (by omega)
    have HB := Lib.hid hb
    have HG := Lib.hid hg
    have HA := Lib.hid hat'
    have HNB := Lib.hid hn'
    have HSZ := Lib.hid (show off + c * 4 ≤ cur'.size by omega)
    clear hb hg hat' hn' hs' hat hnb hsz
    go_wp2_with fail
    go_ret
    refine ⟨g, rfl, rfl, ⟨[], some ⟨g, off, none⟩, c, rfl, rfl, Nat.zero_le _, h4, (fun z hz => by cases hz), .inr ⟨g, off, cur', rfl, hB, HA.out, HSZ.out, HNB.out, fun j u hj => ?_⟩⟩, grown_trans (grown_below (some g) HB.out) HG.out⟩
    simp [flatK] at hj
end Go.Proofs.Ytmbhiajhlfjknaa.Dup
