/- Contracts by the evaluator: layer 8's example. -/
import Derived.Test.YtkpjokhiobclbaaQ8
import Derived.Test.YtkpjokhiobclbaaPD
namespace Go.Proofs.Ytkpjokhiobclbaa
open Go.RowKit

def givesM (s : ByteArray) : Module := ⟨[⟨s, 2, 0, [⟨0, [⟨1, 0, 0, 0, ⟨#[]⟩, []⟩], 3, 0, 0, [], 0, []⟩]⟩], []⟩
def wantsOnly (s : ByteArray) : Module := ⟨[⟨s, 2, 0, []⟩], []⟩

theorem one_le {n : Nat} {row row' : Nat → List DV} (h : DLes (row 0) (row' 0)) : DLe (.sl n 1 row) (.sl n 1 row') := DLe_cells fun i hi => by
  obtain rfl : i = 0 := by omega
  exact h
theorem two_le {n : Nat} {row row' : Nat → List DV} (h0 : DLes (row 0) (row' 0)) (h1 : DLes (row 1) (row' 1)) : DLe (.sl n 2 row) (.sl n 2 row') := DLe_cells fun i hi => by
  rcases i with _ | _ | i
  · exact h0
  · exact h1
  · omega
theorem three_le {n : Nat} {row row' : Nat → List DV} (h0 : DLes (row 0) (row' 0)) (h1 : DLes (row 1) (row' 1)) (h2 : DLes (row 2) (row' 2)) : DLe (.sl n 3 row) (.sl n 3 row') := DLe_cells fun i hi => by
  rcases i with _ | _ | _ | i
  · exact h0
  · exact h1
  · exact h2
  · omega
theorem nil_le {n : Nat} {row : Nat → List DV} : DLe (.lit (.slice none 0 0)) (.sl n 0 row) := by
  intro X w v h; cases h; exact .nil _ _

set_option maxRecDepth 10000 in
theorem gives_pure (s : ByteArray) : APure Try.prog 25 [.str s] (.agg (moduleC (givesM s))) := by
  refine apureG _ _ Try.func25 (by kernel_rfl) t_marlinelaw08_gives u_marlinelaw08_gives rfl rfl (fun _ => ?_)
  simp [c_marlinelaw08_gives, r_marlinelaw08_gives]
  exact DLe_agg ⟨one_le ⟨DLe.refl _, DLe.refl _, DLe.refl _, one_le ⟨DLe.refl _, one_le ⟨DLe.refl _, DLe.refl _, DLe.refl _, DLe.refl _, DLe.refl _, nil_le, trivial⟩, DLe.refl _, DLe.refl _, DLe.refl _, nil_le, DLe.refl _, nil_le, trivial⟩, trivial⟩, nil_le, trivial⟩

set_option maxRecDepth 10000 in
theorem wantsOnly_pure (s : ByteArray) : APure Try.prog 24 [.str s] (.agg (moduleC (wantsOnly s))) := by
  refine apureG _ _ Try.func24 (by kernel_rfl) t_marlinelaw08_wants u_marlinelaw08_wants rfl rfl (fun _ => ?_)
  simp [c_marlinelaw08_wants, r_marlinelaw08_wants]
  exact DLe_agg ⟨one_le ⟨DLe.refl _, DLe.refl _, DLe.refl _, nil_le, trivial⟩, nil_le, trivial⟩

def exF1 : File := ⟨false, [wantsOnly ⟨#[102]⟩]⟩
def exF2 : File := ⟨true, [givesM ⟨#[103]⟩, givesM ⟨#[102]⟩, givesM ⟨#[104]⟩]⟩
def exFs : List File := [exF1, exF2]
theorem exFs_ok : FilesOk exFs := by
  intro f hf
  have : f = exF1 ∨ f = exF2 := by simpa [exFs] using hf
  rcases this with rfl | rfl
  · refine ⟨by decide, fun m hm => ?_⟩
    have : m = wantsOnly ⟨#[102]⟩ := by simpa [exF1] using hm
    subst this
    exact ⟨by decide, by decide +kernel⟩
  · refine ⟨by decide, fun m hm => ?_⟩
    have : m = givesM ⟨#[103]⟩ ∨ m = givesM ⟨#[102]⟩ ∨ m = givesM ⟨#[104]⟩ := by simpa [exF2] using hm
    rcases this with rfl | rfl | rfl <;> exact ⟨by decide, by decide +kernel⟩
theorem exFs_check : checkFiles exFs = 0 := by kernel_rfl
theorem exFs_take : takeL exFs = [wantsOnly ⟨#[102]⟩, givesM ⟨#[102]⟩] := by kernel_rfl

set_option maxRecDepth 10000 in
theorem shown08_pure : APure Try.prog 10 [] (.bool true) := by
  refine apureG _ _ Try.func10 (by kernel_rfl) t_marlinelaw08_shown u_marlinelaw08_shown rfl rfl (fun _ => ?_)
  simp [c_marlinelaw08_shown, r_marlinelaw08_shown]
  refine call_plain (ds := [.str ⟨#[102]⟩]) _ (by simp) (by simp) (fun _ => rfl) (fun _ => wantsOnly_pure _) ?_
  simp
  refine call_plain (ds := [.str ⟨#[103]⟩]) _ (by simp) (by simp) (fun _ => rfl) (fun _ => gives_pure _) ?_
  simp
  refine call_plain (ds := [.str ⟨#[102]⟩]) _ (by simp) (by simp) (fun _ => rfl) (fun _ => gives_pure _) ?_
  simp
  refine call_plain (ds := [.str ⟨#[104]⟩]) _ (by simp) (by simp) (fun _ => rfl) (fun _ => gives_pure _) ?_
  simp
  refine call_arg (ds' := [filesD exFs]) (take_pure exFs exFs_ok) (by simp) (by simp) (fun _ => rfl) (fun _ => ?_) ?_
  · exact ⟨two_le ⟨DLe.refl _, one_le ⟨DLe.refl _, DLe.refl _, trivial⟩, trivial⟩ ⟨DLe.refl _, three_le ⟨DLe.refl _, DLe.refl _, trivial⟩ ⟨DLe.refl _, DLe.refl _, trivial⟩ ⟨DLe.refl _, DLe.refl _, trivial⟩, trivial⟩, trivial⟩
  rw [takeR, if_pos exFs_check, exFs_take, exFs_check]
  simp
  exact ⟨fun _ => ⟨by decide, by decide⟩, DLe_bool (by decide)⟩

end Go.Proofs.Ytkpjokhiobclbaa
