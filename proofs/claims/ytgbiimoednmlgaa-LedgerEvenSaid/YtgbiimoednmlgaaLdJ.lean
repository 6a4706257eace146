/- The law's own example: plain. -/
import Derived.Test.YtgbiimoednmlgaaLdL
namespace Go.Proofs.Ytgbiimoednmlgaa
set_option linter.unusedVariables false
set_option linter.unusedSimpArgs false
open Go.RowKit
def awA : ByteArray := ⟨#[97]⟩
def awB : ByteArray := ⟨#[98]⟩
def awC : ByteArray := ⟨#[85, 83, 68]⟩
def awM : Mv := ⟨awA, awB, awC, 5⟩
def awL : List Acct := [⟨awA, awC, -5⟩, ⟨awB, awC, 5⟩]
theorem awM_may : [awM].all mayM = true := by kernel_rfl
theorem awL_con : conA [] ++ conM [awM] = [((([97], [85, 83, 68]) : Ky), -5), (([98], [85, 83, 68]), 5)] := by rfl
theorem aw_tot (k : Ky) : tot (conA [] ++ conM [awM]) k = if k = ([97], [85, 83, 68]) then -5 else if k = ([98], [85, 83, 68]) then 5 else 0 := by
  rw [awL_con]
  have e : ([((([97], [85, 83, 68]) : Ky), -5), (([98], [85, 83, 68]), 5)] : List (Ky × Int)) = [((([97], [85, 83, 68]) : Ky), -5)] ++ [(([98], [85, 83, 68]), 5)] := rfl
  rw [e, tot_append, tot_one, tot_one]
  by_cases h1 : k = ([97], [85, 83, 68])
  · rw [if_pos h1, if_pos h1.symm, if_neg (by rw [h1]; decide)]; omega
  · rw [if_neg h1, if_neg (fun e => h1 e.symm)]
    by_cases h2 : k = ([98], [85, 83, 68])
    · rw [if_pos h2, if_pos h2.symm]; omega
    · rw [if_neg h2, if_neg (fun e => h2 e.symm)]; omega
theorem aw_fit : FitL (conA [] ++ conM [awM]) := by
  intro k
  rw [aw_tot]
  split
  · decide
  · split <;> decide
theorem aw_out : OutOf awL (conA [] ++ conM [awM]) := by
  refine ⟨?_, ?_, ?_⟩
  · unfold UpK awL
    refine List.pairwise_cons.2 ⟨fun x hx => ?_, List.pairwise_singleton _ _⟩
    rw [List.mem_singleton] at hx
    subst hx
    exact kcmp_neg.1 (by decide)
  · intro a ha
    rw [aw_tot]
    unfold awL at ha
    rw [List.mem_cons, List.mem_singleton] at ha
    rcases ha with rfl | rfl
    · exact ⟨rfl, by decide⟩
    · exact ⟨rfl, by decide⟩
  · intro k hk
    rw [aw_tot] at hk
    by_cases h1 : k = ([97], [85, 83, 68])
    · exact ⟨⟨awA, awC, -5⟩, List.mem_cons_self .., h1.symm⟩
    · rw [if_neg h1] at hk
      by_cases h2 : k = ([98], [85, 83, 68])
      · exact ⟨⟨awB, awC, 5⟩, List.mem_cons_of_mem _ (List.mem_cons_self ..), h2.symm⟩
      · rw [if_neg h2] at hk; exact absurd rfl hk
theorem aw_verd {out : List Acct} {e : Int} (h : Verd [] [awM] out e) : e = 0 ∧ out = awL := by
  rcases h with ⟨-, -, h⟩ | ⟨-, -, ⟨-, -, h⟩ | ⟨he, -, h⟩⟩
  · exact absurd ⟨rfl, awM_may⟩ h
  · exact absurd aw_fit h
  · exact ⟨he, h.is.uniq aw_out (fun _ => rfl)⟩
theorem aw_even : evenA awL = true := by kernel_rfl
theorem aw_get : getA awL ([98], [85, 83, 68]) = 5 := by kernel_rfl
theorem awM_ok : MvOk awM := ⟨by decide, by decide, by decide, by unfold I64; decide⟩
set_option maxRecDepth 100000 in
set_option maxHeartbeats 4000000 in
theorem awake_any (w : World) : Calls Try.prog 9 #[] w fun x w' => x = .returned (.bool true) ∧ Below w.heap.size w w' := by
  have hal := (Below.refl w.heap.size w).alloc (Nat.le_refl _) (.cells (mvC awM).toArray 72)
  have BX := Mem.Blk.new w 72 (mvC awM).toArray
  have HPO := Lib.hid (post_any [] [awM] none 0 0 (some ⟨w.heap.size, 0, none⟩) 1 1 (w.alloc (.cells (mvC awM).toArray 72)) (SlR.nil _ _ _) (SlR.lit1 (K := mvK) BX (by simp) ⟨rfl, awM_ok⟩) (by omega) (by omega))
  have HB := Lib.hid hal
  clear hal BX
  go_enter Try.func9, Try.ntmps9
  go_wp2_with fail
  have HPO' : Hid (Calls Try.prog 12 #[.slice none 0 0, .slice (some ⟨w.heap.size, 0, none⟩) 1 1] (w.alloc (.cells #[.string ⟨#[97]⟩, .string ⟨#[98]⟩, .string ⟨#[85, 83, 68]⟩, .int .i64 5] 72)) fun x w' => PostR w' [] [awM] x ∧ Below (w.alloc (.cells #[.string ⟨#[97]⟩, .string ⟨#[98]⟩, .string ⟨#[85, 83, 68]⟩, .int .i64 5] 72)).heap.size (w.alloc (.cells #[.string ⟨#[97]⟩, .string ⟨#[98]⟩, .string ⟨#[85, 83, 68]⟩, .int .i64 5] 72)) w') := HPO.out
  have HB' : Hid (Below w.heap.size w (w.alloc (.cells #[.string ⟨#[97]⟩, .string ⟨#[98]⟩, .string ⟨#[85, 83, 68]⟩, .int .i64 5] 72))) := HB.out
  clear HPO HB
  generalize w.alloc (.cells #[.string ⟨#[97]⟩, .string ⟨#[98]⟩, .string ⟨#[85, 83, 68]⟩, .int .i64 5] 72) = w1 at *
  go_at_call 12
  (with_reducible refine HPO'.out.mono ?_)
  rintro x w2 ⟨⟨out, a, c, e, rfl, hs, hv, -⟩, b2⟩
  obtain ⟨rfl, rfl⟩ := aw_verd hv
  have HB2 := Lib.hid (HB'.out.trans (b2.mono HB'.out.size))
  have HS := Lib.hid (show SlR acctK w2 [] awL a 2 c from hs)
  obtain ⟨g, o, x, rfl, hx, -, u0, u1, u2⟩ := acct_at HS.out 0 (by omega)
  obtain rfl : x = ⟨awA, awC, -5⟩ := by injection hx with hx; exact hx.symm
  have HE := Lib.hid (even_any awL (some ⟨g, o, none⟩) 2 c w2 HS.out (by omega))
  have HG : Hid (∀ w3, Below w2.heap.size w2 w3 → Calls Try.prog 29 #[.slice (some ⟨g, o, none⟩) 2 c, .string ⟨#[98]⟩, .string ⟨#[85, 83, 68]⟩] w3 fun x w' => x = .returned (.int .i64 5) ∧ Below w3.heap.size w3 w') := fun w3 b => (get_any awL (some ⟨g, o, none⟩) 2 c ⟨#[98]⟩ ⟨#[85, 83, 68]⟩ w3 (HS.out.kept (Kept.of_below b [])) (by omega)).mono fun x w' h => ⟨by rw [h.1]; exact congrArg (fun n => Ending.returned (.int .i64 n)) aw_get, h.2⟩
  rw [aw_even] at HE
  have hlen : awL.length = 2 := rfl
  rw [hlen]
  have v0 : w2.cell? ⟨g, o, none⟩ = some (.string ⟨#[97]⟩) := by have h := u0; simp only [Nat.zero_mul, Nat.add_zero] at h; exact h
  have v1 : w2.cell? ⟨g, o + 1, none⟩ = some (.string ⟨#[85, 83, 68]⟩) := by have h := u1; simp only [Nat.zero_mul, Nat.add_zero] at h; exact h
  have v2 : w2.cell? ⟨g, o + 2, none⟩ = some (.int .i64 (-5)) := by simpa using u2
  clear hs hv b2 hx u0 u1 u2 HPO' hlen
  go_wp2_with fail
  go_at_call 21
  (with_reducible refine HE.out.mono ?_)
  rintro y w3 ⟨rfl, b3⟩
  have HB3 := Lib.hid (HB2.out.trans (b3.mono HB2.out.size))
  have HG3 := Lib.hid (HG.out w3 b3)
  clear HG HE b3 HB2
  go_wp2_with fail
  go_at_call 29
  (with_reducible refine HG3.out.mono ?_)
  rintro y w4 ⟨rfl, b4⟩
  have HB4 := Lib.hid (HB3.out.trans (b4.mono HB3.out.size))
  clear HG3 b4
  go_wp2_with fail
  go_ret
  exact ⟨rfl, HB4.out⟩
end Go.Proofs.Ytgbiimoednmlgaa
