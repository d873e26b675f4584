/- Contracts by the evaluator: numbers' bytes; a row of numbers, a text, laid by the writer. -/
import Derived.Test.YtciihchbiifgkaaTF
import Derived.Test.YtciihchbiifgkaaBitLaws
import Derived.Test.YtciihchbiifgkaaF1
import Derived.Test.YtciihchbiifgkaaLD
namespace Go.Proofs.Ytciihchbiifgkaa
open Go.RowKit

/-- A number's bytes. -/
def numB (x : Nat) : ByteArray := ⟨(Lib.uvarint x).toArray⟩
theorem numB_size {x : Nat} (hx : x < 18446744073709551616) : (numB x).size ≤ 10 := uvarint_lt hx
theorem num_pure (x : Nat) (hx : x < 18446744073709551616) : APure Try.prog 16 [.lit (.int .u64 x)] (.str (numB x)) := by
  refine ⟨⟨_, _, Try.func16, by kernel_rfl, rfl⟩, fun X w vs _ hvs => ?_⟩
  obtain ⟨a0, r0, e0, h0, k0⟩ := hvs.uncons
  obtain rfl := k0.unnil
  cases h0
  obtain rfl : vs = #[.int .u64 x] := Array.toList_inj.1 e0
  refine (num_any x hx w).mono ?_
  rintro e w' ⟨rfl, hw⟩
  exact ⟨hw, _, rfl, .lit _⟩
/-- An int's bytes. -/
def u64N (n : Int) : Nat := (IntKind.u64.wrap n).toNat
theorem u64N_cast (n : Int) : IntKind.u64.wrap n = (u64N n : Int) := by
  unfold u64N
  have : (0 : Int) ≤ IntKind.u64.wrap n := by
    have e1 : ((2 : Int) ^ IntKind.u64.bits) = 18446744073709551616 := by decide
    have e3 : IntKind.u64.signed = false := rfl
    simp only [IntKind.wrap, e1, e3, Bool.false_and]
    simp
    omega
  omega
theorem u64N_lt (n : Int) : u64N n < 18446744073709551616 := by
  unfold u64N
  have e1 : ((2 : Int) ^ IntKind.u64.bits) = 18446744073709551616 := by decide
  have e3 : IntKind.u64.signed = false := rfl
  simp only [IntKind.wrap, e1, e3, Bool.false_and]
  simp
  omega
def encI (n : Int) : ByteArray := numB (u64N n)
theorem encI_size (n : Int) : (encI n).size ≤ 10 := numB_size (u64N_lt n)
def catB (l : List ByteArray) : ByteArray := l.foldr (· ++ ·) ByteArray.empty
@[simp] theorem catB_nil : catB [] = ByteArray.empty := rfl
@[simp] theorem catB_cons (a : ByteArray) (l : List ByteArray) : catB (a :: l) = a ++ catB l := rfl
theorem catB_append (a b : List ByteArray) : catB (a ++ b) = catB a ++ catB b := by
  induction a with
  | nil => simp
  | cons x a ih => simp [ih, ByteArray.append_assoc]
theorem catB_take {α : Type} (f : α → ByteArray) {l : List α} {k : Nat} (hk : k < l.length) : catB ((l.take (k + 1)).map f) = catB ((l.take k).map f) ++ f l[k] := by
  rw [List.take_succ_eq_append_getElem hk, List.map_append, catB_append]
  simp
theorem catB_size {α : Type} (f : α → ByteArray) (c : Nat) (h : ∀ x, (f x).size ≤ c) : ∀ l : List α, (catB (l.map f)).size ≤ l.length * c
  | [] => by simp
  | x :: l => by
    have h1 := h x
    have h2 := catB_size f c h l
    simp only [List.map_cons, catB_cons, ByteArray.size_append, List.length_cons, Nat.add_mul]
    omega
def encIs (l : List Int) : ByteArray := catB (l.map encI)
@[simp] theorem append_empty (b : ByteArray) : b ++ ByteArray.empty = b := by simp


theorem catB_mid {α : Type} (f : α → ByteArray) {l : List α} {k : Nat} (hk : k < l.length) : (catB ((l.take k).map f)).size + (f l[k]).size ≤ (catB (l.map f)).size := by
  have e : l = l.take k ++ l[k] :: l.drop (k + 1) := by rw [List.getElem_cons_drop, List.take_append_drop]
  have := congrArg (fun l => (catB (l.map f)).size) e
  simp only [List.map_append, List.map_cons, catB_append, catB_cons, ByteArray.size_append] at this
  omega
set_option maxRecDepth 10000 in
theorem nums_eff (bs : ByteArray) (l : List Int) (hlen : bs.size + (encIs l).size ≤ 140737488355328) :
    AEff Try.prog 22 [.ptr 1000000 0, .d (intsD l)] (LB (.ptr 1000000 0) bs) (.tup []) (LW0 (bs ++ encIs l)) := by
  refine aeffG _ _ Try.func22 (by kernel_rfl) t___bit_writer__nums u___bit_writer__nums rfl rfl (by simp [LB]) (by simp [LB, LW0, idsOk]) (fun hx => ?_)
  have hl : l.length ≤ 9223372036854775807 := by
    obtain ⟨γ, X, w, us, h⟩ := hx
    obtain ⟨v, vs, _, _, h⟩ := h.uncons
    obtain ⟨v, vs, _, h1, _⟩ := h.uncons
    have := sl_len h1.dv
    simpa [maxLen] using this
  clear hx
  simp [c___bit_writer__nums, r___bit_writer__nums, hof_LB]
  refine loop_s (κ := Nat) (fun k => k ≤ l.length) (fun k => l.length - k) (fun k => [(sl 8, .int k)]) (fun k => [(1000000, .boxT (some 51) [.ptr 1000000 0, .own 3 (bs ++ encIs (l.take k)).size]), (3, .row 5 1 (bs ++ encIs (l.take k)).size (strRow (bs ++ encIs (l.take k))))]) 4 0 (srcs [(3, .id 1000001)]) (by simp) (by simp [encIs]) ?_
  rintro k hk
  simp
  refine ⟨fun hlt => ⟨hlt, ?_⟩, fun hge => ?_⟩
  · rw [getD_some hlt]
    refine call_plain (ds := [.lit (.int .u64 (u64N l[k]))]) _ (by simp) (by simp) (fun _ => by simp [u64N_cast]) (fun _ => num_pure _ (u64N_lt _)) ?_
    simp
    have hsz := catB_mid encI hlt
    refine calle_k (writeString_eff (.ptr 1000000 0) (.inr rfl) (bs ++ encIs (l.take k)) (encI l[k]) (by rw [ByteArray.size_append]; unfold encIs at hlen ⊢; omega)) (tauB _ 3) rfl [.ptr 1000000 0, .d (.str (encI l[k]))] (by simp) (by simp) (by simp; rfl) ?_ ?_ ?_ (by simp [LB, LW0, idsOk]) ?_
    · simp [gOf, LB, tauB]
    · simp [gOf, LB, tauB]
    · simp [gOf, LB, tauB]
    simp [LB, LW0, tauB]
    have e : encIs (l.take (k + 1)) = encIs (l.take k) ++ encI l[k] := catB_take encI hlt
    refine ⟨k + 1, by omega, by omega, srcs [(3, .id 14)], ?_⟩
    simp [SLeK, e, ← ByteArray.append_assoc]
    exact ⟨DLe_int (wrap_succ (by omega)), by omega⟩
  · rw [List.take_of_length_le hge]
    refine ⟨.id 3, ?_, ?_⟩
    · simp [LB, LW0, gE]
    · simp [LB, LW0, gE]

/-- A text's bytes: how many, and they. -/
def encT (s : ByteArray) : ByteArray := encI s.size ++ s
theorem encIs_one (n : Int) : encIs [n] = encI n := by simp [encIs]
theorem encIs_two (a b : Int) : encIs [a, b] = encI a ++ encI b := by simp [encIs]
@[simp] theorem ints1_le (a : Int) : DLe (.sl 1 1 fun i => List.take 1 (List.drop i [DV.int a])) (intsD [a]) := intsD_le (xs := [a]) rfl fun i hi => by
  obtain rfl : i = 0 := by simpa using hi
  rfl
@[simp] theorem ints2_le (a b : Int) : DLe (.sl 1 2 fun i => List.take 1 (List.drop i [DV.int a, DV.int b])) (intsD [a, b]) := intsD_le (xs := [a, b]) rfl fun i hi => by
  have hi : i < 2 := hi
  rcases i with _ | _ | i
  · rfl
  · rfl
  · omega

set_option maxRecDepth 10000 in
theorem text_eff (bs s : ByteArray) (hlen : bs.size + (encT s).size ≤ 140737488355328) :
    AEff Try.prog 21 [.ptr 1000000 0, .d (.str s)] (LB (.ptr 1000000 0) bs) (.tup []) (LW0 (bs ++ encT s)) := by
  refine aeffG _ _ Try.func21 (by kernel_rfl) t___bit_writer__text u___bit_writer__text rfl rfl (by simp [LB]) (by simp [LB, LW0, idsOk]) (fun hx => ?_)
  simp [c___bit_writer__text, r___bit_writer__text, hof_LB]
  unfold encT at hlen
  rw [ByteArray.size_append] at hlen
  refine calle_k (nums_eff bs [s.size] (by rw [encIs_one]; omega)) (tauB _ 1000001) rfl [.ptr 1000000 0, .d (.sl 1 1 fun i => List.take 1 (List.drop i [DV.int s.size]))] (by simp) (by simp) (by simp) (by simp [gOf, LB, tauB]) (by simp [gOf, LB, tauB]) (by simp [gOf, LB, tauB]) (by simp [LB, LW0, idsOk]) ?_
  rw [encIs_one]
  simp [LB, LW0, tauB]
  refine calle_k (writeString_eff (.ptr 1000000 0) (.inr rfl) (bs ++ encI s.size) s (by rw [ByteArray.size_append]; omega)) (tauB _ 4) rfl [.ptr 1000000 0, .d (.str s)] (by simp) (by simp) (by simp) (by simp [gOf, LB, tauB]) (by simp [gOf, LB, tauB]) (by simp [gOf, LB, tauB]) (by simp [LB, LW0, idsOk]) ?_
  simp [LB, LW0, tauB]
  refine ⟨.id 9, ?_, ?_⟩
  · simp [encT, gE, ← ByteArray.append_assoc]
    omega
  · simp [gE]

def encR (l : List Int) : ByteArray := encI l.length ++ encIs l
/-- An instruction's bytes. -/
def encInst (i : Inst) : ByteArray := encI i.op ++
  if i.op = 1 then numB i.k else if i.op ≤ 11 then encIs [i.a, i.b] else if i.op = 12 then encT i.name else if i.op = 13 then encI i.a ++ encT i.name else if i.op = 14 then encT i.name ++ encR i.args else if i.op = 16 then encI i.a else ByteArray.empty

end Go.Proofs.Ytciihchbiifgkaa
