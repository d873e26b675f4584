/- Contracts by the evaluator: layer 8's statement PickEmpty. -/
import Derived.Test.YtkpjokhiobclbaaQC
import Derived.Test.YtkpjokhiobclbaaPV
namespace Go.Proofs.Ytkpjokhiobclbaa
open Go.RowKit

theorem DLes_refl : ∀ l : List DV, DLes l l
  | [] => trivial
  | _ :: l => ⟨DLe.refl _, DLes_refl l⟩
theorem DLes_of_eq {a b : List DV} (h : a = b) : DLes a b := h ▸ DLes_refl a
theorem insF_row {l : List File} {n : Nat} (hn : n ≤ l.length) : DLe (.sl 2 (n + 1 + (l.length - n)) (appRow (n + 1) (appRow n (fun i => fileC (l[i]?.getD default)) fun i => List.take 2 (List.drop (i * 2) [DV.lit (Value.bool true), DV.lit (Value.slice none 0 0)])) fun i => fileC (l[n + i]?.getD default))) (filesD (insF l n)) := by
  have hlen : (insF l n).length = n + 1 + (l.length - n) := by rw [insF_length hn]; omega
  show DLe _ (.sl 2 (insF l n).length _)
  rw [hlen]
  refine DLe_cells fun i hi => ?_
  have hel : (insF l n)[i]? = if i < n then l[i]? else if i = n then some bareF else l[i - 1]? := by
    unfold insF
    split
    · rename_i h
      rw [List.getElem?_append_left (by simp; omega), List.getElem?_take_of_lt h]
    · rename_i h
      rw [List.getElem?_append_right (by simp; omega)]
      simp only [List.length_take, Nat.min_eq_left hn]
      split
      · rename_i h2
        subst h2
        simp
      · rename_i h2
        obtain ⟨j, hj⟩ : ∃ j, i - n = j + 1 := ⟨i - n - 1, by omega⟩
        rw [hj, List.getElem?_cons_succ, List.getElem?_drop]
        congr 1
        omega
  rw [hel]
  rcases Nat.lt_trichotomy i n with h | h | h
  · rw [if_pos h]
    refine DLes_of_eq ?_
    unfold appRow
    rw [if_pos (by omega), if_pos h]
  · subst h
    rw [if_neg (by omega), if_pos rfl]
    unfold appRow
    rw [if_pos (by omega), if_neg (by omega), Nat.sub_self]
    exact ⟨DLe.refl _, nil_le, trivial⟩
  · rw [if_neg (by omega), if_neg (by omega)]
    refine DLes_of_eq ?_
    unfold appRow
    rw [if_neg (by omega)]
    show fileC (l[n + (i - (n + 1))]?.getD default) = _
    rw [show n + (i - (n + 1)) = i - 1 by omega]

set_option maxRecDepth 10000 in
theorem pickEmpty_pure (l : List File) (n : Int) (hl : FilesOk l) : APure Try.prog 7 [filesD l, .int n] (.bool true) := by
  refine apureG _ _ Try.func7 (by kernel_rfl) t_marlinelaw08_PickEmpty u_marlinelaw08_PickEmpty rfl rfl (fun hx => len1 hx fun hlen => ?_)
  clear hx
  simp [c_marlinelaw08_PickEmpty, r_marlinelaw08_PickEmpty]
  refine call_plain (ds := []) _ (by simp) (by simp) (fun _ => rfl) (fun _ => shown08_pure) ?_
  simp
  intro h1 h2 h3
  obtain ⟨n, rfl⟩ := Int.eq_ofNat_of_zero_le h1
  have hn : n ≤ l.length := by simpa using h2
  refine call_plain (ds := [filesD l]) _ (by simp) (by simp) (fun _ => by simp) (fun _ => takeP_pure l hl) ?_
  simp
  refine ⟨hn, by omega, by omega, hn, by omega, ?_⟩
  have hi : FilesOk (insF l n) := by
    intro f hf
    unfold insF at hf
    rcases List.mem_append.1 hf with hf | hf
    · exact hl f (List.mem_of_mem_take hf)
    · rcases List.mem_cons.1 hf with rfl | hf
      · exact ⟨by simp [bareF], fun m hm => by simp [bareF] at hm⟩
      · exact hl f (List.mem_of_mem_drop hf)
  refine call_arg (ds := [.sl 2 (n + 1 + (l.length - n)) (appRow (n + 1) (appRow n (fun i => fileC (l[i]?.getD default)) fun i => List.take 2 (List.drop (i * 2) [DV.lit (Value.bool true), DV.lit (Value.slice none 0 0)])) fun i => fileC (l[n + i]?.getD default))]) (ds' := [filesD (insF l n)]) (takeP_pure (insF l n) hi) (by simp) (by simp) (fun _ => by simp) (fun _ => ⟨insF_row hn, trivial⟩) ?_
  have hg : gotL (insF l n) = gotL l := by
    unfold gotL
    rw [check_insF hn (by omega), take_insF hn]
  rw [hg, check_insF hn (by omega)]
  simp
  refine call_plain (ds := [modsD (gotL l), modsD (gotL l)]) _ (by simp) (by simp) (fun _ => by simp) (fun _ => mods_pure _ _) ?_
  rw [sameMods_refl]
  simp

end Go.Proofs.Ytkpjokhiobclbaa
