/- Plain layer 6: the reading of bytes; what was laid is read as it was. -/
import Derived.Test.YtciihchbiifgkaaTL
namespace Go.Proofs.Ytciihchbiifgkaa
open Go.RowKit

abbrev PR (α : Type) := List UInt8 → Except Int (α × List UInt8)
def pBind {α β : Type} (p : PR α) (f : α → PR β) : PR β := fun l => match p l with
  | .ok (x, r) => f x r
  | .error c => .error c
def pRet {α : Type} (x : α) : PR α := fun l => .ok (x, l)
def pErr {α : Type} (c : Int) : PR α := fun _ => .error c
def pWide : PR Nat := fun l => match takeNum l with
  | (x, r, 0) => .ok (x, r)
  | (_, _, c + 1) => .error ((c + 1 : Nat) : Int)
def pMost (n : Nat) : PR Int := pBind pWide fun x => if n < x then pErr 4 else pRet (x : Int)
def pNum : PR Int := pMost 4294967295
def pText : PR ByteArray := pBind (pMost 16) fun n l => if l.length < n.toNat then .error 2 else .ok (⟨(l.take n.toNat).toArray⟩, l.drop n.toNat)
def pRep {α : Type} (p : PR α) : Nat → PR (List α)
  | 0 => pRet []
  | n + 1 => pBind p fun x => pBind (pRep p n) fun xs => pRet (x :: xs)
def pSev {α : Type} (most : Nat) (p : PR α) : PR (List α) := pBind (pMost most) fun n => pRep p n.toNat
def pArgs : PR (List Int) := pSev 6 pNum
def pInst : PR Inst := pBind pNum fun op =>
  if op < 1 ∨ 16 < op then pErr 3
  else if op = 1 then pBind pWide fun k => pRet ⟨op, 0, 0, k, ⟨#[]⟩, []⟩
  else if op ≤ 11 then pBind pNum fun a => pBind pNum fun b => pRet ⟨op, a, b, 0, ⟨#[]⟩, []⟩
  else if op = 12 then pBind pText fun s => pRet ⟨op, 0, 0, 0, s, []⟩
  else if op = 13 then pBind pNum fun a => pBind pText fun s => pRet ⟨op, a, 0, 0, s, []⟩
  else if op = 14 then pBind pText fun s => pBind pArgs fun l => pRet ⟨op, 0, 0, 0, s, l⟩
  else if op = 16 then pBind pNum fun a => pRet ⟨op, a, 0, 0, ⟨#[]⟩, []⟩
  else pRet ⟨op, 0, 0, 0, ⟨#[]⟩, []⟩
def pBlock : PR Block := pBind pNum fun params => pBind (pSev 32 pInst) fun ins => pBind pNum fun kind =>
  if kind = 1 then pBind pNum fun to => pBind pArgs fun args => pRet ⟨params, ins, kind, 0, to, args, 0, []⟩
  else if kind = 2 then pBind pNum fun ta => pBind pNum fun to => pBind pArgs fun args => pBind pNum fun els => pBind pArgs fun elses => pRet ⟨params, ins, kind, ta, to, args, els, elses⟩
  else if kind = 3 then pBind pNum fun ta => pRet ⟨params, ins, kind, ta, 0, [], 0, []⟩
  else pErr 3
def pFunc : PR Func := pBind pText fun name => pBind pNum fun bind => pBind pNum fun params => pBind (pSev 16 pBlock) fun blocks => pRet ⟨name, bind, params, blocks⟩
def pGlob : PR Glob := pBind pText fun name => pBind pNum fun bind => pBind pNum fun here => if 1 < here then pErr 3 else pBind pWide fun init => pRet ⟨name, bind, decide (here = 1), init⟩
def pMods : PR Module := pBind (pSev 16 pFunc) fun fs => pBind (pSev 16 pGlob) fun gs => pRet ⟨fs, gs⟩

/-- Bytes as a list. -/
def bL (b : ByteArray) : List UInt8 := b.data.toList
theorem bL_append (a b : ByteArray) : bL (a ++ b) = bL a ++ bL b := append_toList a b
theorem bL_length (b : ByteArray) : (bL b).length = b.size := by unfold bL; rw [Array.length_toList]; rfl
@[simp] theorem bL_empty : bL ByteArray.empty = [] := rfl
theorem bL_inj {a b : ByteArray} (h : bL a = bL b) : a = b := by
  unfold bL at h
  cases a; cases b
  simp only at h
  rw [Array.toList_inj.1 h]
theorem bL_back (b : ByteArray) : (⟨(bL b).toArray⟩ : ByteArray) = b := by unfold bL; simp

/-- What f lays p takes. -/
def Rt {α : Type} (p : PR α) (f : α → ByteArray) (D : α → Prop) : Prop := ∀ x t, D x → p (bL (f x) ++ t) = .ok (x, t)
theorem rt_wide : Rt pWide numB (· < 18446744073709551616) := fun x t hx => by
  unfold pWide numB bL
  simp only [List.toList_toArray]
  rw [takeNum_put hx]
theorem u64N_id {n : Int} (h0 : 0 ≤ n) (h : n < 18446744073709551616) : u64N n = n.toNat := by
  unfold u64N
  have e1 : ((2 : Int) ^ IntKind.u64.bits) = 18446744073709551616 := by decide
  have e3 : IntKind.u64.signed = false := rfl
  simp only [IntKind.wrap, e1, e3, Bool.false_and]
  simp
  omega
theorem rt_most (N : Nat) (hN : N < 18446744073709551616) : Rt (pMost N) encI (fun n => 0 ≤ n ∧ n ≤ N) := fun n t ⟨h0, h1⟩ => by
  unfold pMost pBind encI
  rw [u64N_id h0 (by omega), rt_wide n.toNat t (by show n.toNat < _; omega)]
  simp only
  rw [if_neg (by omega)]
  unfold pRet
  rw [Int.toNat_of_nonneg h0]
theorem rt_num : Rt pNum encI (fun n => 0 ≤ n ∧ n ≤ 4294967295) := rt_most _ (by omega)
theorem pBind_ok {α β : Type} {p : PR α} {f : α → PR β} {l r : List UInt8} {x : α} (h : p l = .ok (x, r)) : pBind p f l = f x r := by
  unfold pBind; rw [h]
theorem rt_text : Rt pText encT (fun s => s.size ≤ 16) := fun s t hs => by
  unfold pText encT
  rw [bL_append, List.append_assoc, pBind_ok (rt_most 16 (by omega) s.size _ ⟨by omega, by omega⟩)]
  simp only [Int.toNat_natCast]
  rw [if_neg (by rw [List.length_append, bL_length]; omega), ← bL_length, List.take_left, List.drop_left, bL_back]
theorem rt_rep {α : Type} {p : PR α} {f : α → ByteArray} {D : α → Prop} (h : Rt p f D) : ∀ (l : List α) (t : List UInt8), (∀ x ∈ l, D x) → pRep p l.length (bL (catM f l) ++ t) = .ok (l, t)
  | [], t, _ => rfl
  | x :: l, t, hl => by
    have e : catM f (x :: l) = f x ++ catM f l := rfl
    rw [e, bL_append, List.append_assoc]
    simp only [List.length_cons, pRep]
    rw [pBind_ok (h x _ (hl x (by simp))), pBind_ok (rt_rep h l t fun y hy => hl y (by simp [hy]))]
    rfl
theorem rt_sev {α : Type} {p : PR α} {f : α → ByteArray} {D : α → Prop} (N : Nat) (hN : N < 18446744073709551616) (h : Rt p f D) : Rt (pSev N p) (encL f) (fun l => l.length ≤ N ∧ ∀ x ∈ l, D x) := fun l t ⟨h1, h2⟩ => by
  unfold pSev encL
  rw [bL_append, List.append_assoc, pBind_ok (rt_most N hN l.length _ ⟨by omega, by omega⟩), Int.toNat_natCast]
  exact rt_rep h l t h2
theorem rt_args : Rt pArgs encR (fun l => l.length ≤ 6 ∧ ∀ x ∈ l, 0 ≤ x ∧ x ≤ 4294967295) := rt_sev 6 (by omega) rt_num

def smallI (n : Int) : Prop := 0 ≤ n ∧ n ≤ 4294967295
theorem below_small {l : List Int} {n : Int} (h : belowB l n = true) (hn : n ≤ 4294967295) : ∀ x ∈ l, smallI x := fun x hx => by
  have := List.all_eq_true.1 h x hx
  simp only [Bool.and_eq_true, decide_eq_true_eq] at this
  exact ⟨this.1, by omega⟩
theorem size0 {s : ByteArray} (h : s.size = 0) : s = ⟨#[]⟩ := by
  cases s with
  | mk d =>
    have : d = #[] := Array.size_eq_zero_iff.1 h
    rw [this]
theorem rt_inst (n : Int) (hn : n ≤ 4294967295) : Rt pInst encInst (fun i => instOk i n = true ∧ instK i) := fun i t ⟨h, hk⟩ => by
  simp only [instOk, Bool.and_eq_true, decide_eq_true_eq, Bool.or_eq_true, beq_iff_eq] at h
  obtain ⟨⟨⟨⟨⟨⟨⟨⟨h1, h2⟩, hb⟩, hA⟩, hB⟩, hK⟩, hN⟩, h6⟩, hname⟩ := h
  have hus := below_small hb hn
  obtain ⟨op, a, b, k, name, args⟩ := i
  simp only at h1 h2 hA hB hK hN h6 hname
  have hop : smallI op := ⟨by omega, by omega⟩
  have hnm : isNamed op = true → name.size ≤ 16 := fun h => by rw [if_pos h] at hname; exact nameOk_le hname
  have hnn : ¬ isNamed op = true → name = ⟨#[]⟩ := fun h => by rw [if_neg h] at hname; exact size0 (by simpa using hname)
  have hnam : isNamed op = true ↔ 12 ≤ op ∧ op ≤ 14 := by simp [isNamed]
  have hargs : ¬ op = 14 → args = [] := fun h => by
    rcases hN with h' | h'
    · exact absurd h' h
    · exact List.eq_nil_of_length_eq_zero h'
  have hk0 : ¬ op = 1 → k = 0 := fun h => hK.resolve_left h
  have ha0 : ¬ (2 ≤ op ∧ op ≤ 11) → ¬ op = 13 → ¬ op = 16 → a = 0 := fun q1 q2 q3 => by
    rcases hA with h' | h'
    · rcases (isOne_iff op).1 h' with h'' | h'' | h''
      · exact absurd h'' q1
      · exact absurd h'' q2
      · exact absurd h'' q3
    · exact h'
  have hb0 : ¬ (2 ≤ op ∧ op ≤ 11) → b = 0 := fun q1 => by
    rcases hB with h' | h'
    · exact absurd ((isTwo_iff op).1 h') q1
    · exact h'
  unfold pInst encInst
  simp only
  rw [bL_append, List.append_assoc, pBind_ok (rt_num op _ hop), if_neg (by omega)]
  by_cases c1 : op = 1
  · rw [if_pos c1, if_pos c1, pBind_ok (rt_wide k t hk), ha0 (by omega) (by omega) (by omega), hb0 (by omega), hnn (by rw [hnam]; omega), hargs (by omega)]
    rfl
  rw [if_neg c1, if_neg c1]
  by_cases c2 : op ≤ 11
  · have ha : smallI a := hus a (by unfold uses; rw [if_pos ⟨by show (2 : Int) ≤ op; omega, c2⟩]; simp)
    have hbb : smallI b := hus b (by unfold uses; rw [if_pos ⟨by show (2 : Int) ≤ op; omega, c2⟩]; simp)
    rw [if_pos c2, if_pos c2, encIs_two, bL_append, List.append_assoc, pBind_ok (rt_num a _ ha), pBind_ok (rt_num b _ hbb), hk0 c1, hnn (by rw [hnam]; omega), hargs (by omega)]
    rfl
  rw [if_neg c2, if_neg c2]
  by_cases c3 : op = 12
  · rw [if_pos c3, if_pos c3, pBind_ok (rt_text name _ (hnm (by rw [hnam]; omega))), hk0 c1, ha0 (by omega) (by omega) (by omega), hb0 (by omega), hargs (by omega)]
    rfl
  rw [if_neg c3, if_neg c3]
  by_cases c4 : op = 13
  · have ha : smallI a := hus a (by simp [uses, c4])
    rw [if_pos c4, if_pos c4, bL_append, List.append_assoc, pBind_ok (rt_num a _ ha), pBind_ok (rt_text name _ (hnm (by rw [hnam]; omega))), hk0 c1, hb0 (by omega), hargs (by omega)]
    rfl
  rw [if_neg c4, if_neg c4]
  by_cases c5 : op = 14
  · have ha : ∀ x ∈ args, smallI x := fun x hx => hus x (by simp [uses, c5]; exact hx)
    rw [if_pos c5, if_pos c5, bL_append, List.append_assoc, pBind_ok (rt_text name _ (hnm (by rw [hnam]; omega))), pBind_ok (rt_args args _ ⟨h6, ha⟩), hk0 c1, ha0 (by omega) (by omega) (by omega), hb0 (by omega)]
    rfl
  rw [if_neg c5, if_neg c5]
  by_cases c6 : op = 16
  · have ha : smallI a := hus a (by simp [uses, c6])
    rw [if_pos c6, if_pos c6, pBind_ok (rt_num a _ ha), hk0 c1, hb0 (by omega), hnn (by rw [hnam]; omega), hargs c5]
    rfl
  · rw [if_neg c6, if_neg c6, hk0 c1, ha0 (by omega) c4 c6, hb0 (by omega), hnn (by rw [hnam]; omega), hargs c5]
    rfl

theorem pErr_eq {α : Type} {c : Int} {l : List UInt8} : (pErr c : PR α) l = .error c := rfl
/-- Rows of instructions, each among one value more. -/
theorem rt_insts : ∀ (l : List Inst) (n : Int) (t : List UInt8), n + l.length ≤ 4294967295 → insFrom n l = true → (∀ x ∈ l, instK x) → pRep pInst l.length (bL (catM encInst l) ++ t) = .ok (l, t)
  | [], _, t, _, _, _ => rfl
  | x :: l, n, t, hn, hi, hk => by
    simp only [insFrom, Bool.and_eq_true] at hi
    simp only [List.length_cons] at hn
    have e : catM encInst (x :: l) = encInst x ++ catM encInst l := rfl
    rw [e, bL_append, List.append_assoc]
    simp only [List.length_cons, pRep]
    rw [pBind_ok (rt_inst n (by omega) x _ ⟨hi.1, hk x (by simp)⟩), pBind_ok (rt_insts l (n + 1) t (by omega) hi.2 fun y hy => hk y (by simp [hy]))]
    rfl
theorem goesB_small {f : Func} {to : Int} {args : List Int} {n : Int} (h : goesB f to args n = true) (hf : ∀ b ∈ f.blocks, b.params ≤ 6) (hb : f.blocks.length ≤ 16) (hn : n ≤ 4294967295) : smallI to ∧ args.length ≤ 6 ∧ ∀ x ∈ args, smallI x := by
  obtain ⟨h1, h2, h3⟩ := goesB_len h hf
  unfold goesB at h
  simp only [Bool.and_eq_true] at h
  exact ⟨⟨h2, by omega⟩, h1, below_small h.2 hn⟩
theorem rt_block {f : Func} (hf : ∀ b ∈ f.blocks, b.params ≤ 6) (hb : f.blocks.length ≤ 16) : Rt pBlock encBlock (fun b => blockOk f b = true ∧ blockK b) := fun b t ⟨h, hk⟩ => by
  simp only [blockOk, Bool.and_eq_true, decide_eq_true_eq] at h
  obtain ⟨⟨⟨⟨h0, h6⟩, h32⟩, hi⟩, he⟩ := h
  obtain ⟨params, ins, kind, ta, to, args, els, elses⟩ := b
  simp only at h0 h6 h32 hi
  unfold pBlock encBlock encTerm
  simp only
  have hsev : pSev 32 pInst (bL (encL encInst ins) ++ (bL (encTerm ⟨params, ins, kind, ta, to, args, els, elses⟩) ++ t)) = .ok (ins, bL (encTerm ⟨params, ins, kind, ta, to, args, els, elses⟩) ++ t) := by
    unfold pSev encL
    rw [bL_append, List.append_assoc, pBind_ok (rt_most 32 (by omega) ins.length _ ⟨by omega, by omega⟩), Int.toNat_natCast]
    exact rt_insts ins params _ (by omega) hi hk
  unfold encTerm at hsev
  simp only at hsev
  rw [bL_append, bL_append, List.append_assoc, List.append_assoc, pBind_ok (rt_num params _ ⟨h0, by omega⟩), pBind_ok hsev, bL_append, List.append_assoc]
  by_cases c1 : kind = 1
  · rw [endB_jump c1] at he
    simp only [Bool.and_eq_true, beq_iff_eq] at he
    obtain ⟨⟨⟨hg, h1⟩, h2⟩, h3⟩ := he
    obtain ⟨g1, g2, g3⟩ := goesB_small hg hf hb (by omega)
    obtain rfl := h1
    obtain rfl := h2
    have h3 : elses = [] := List.eq_nil_of_length_eq_zero h3
    rw [pBind_ok (rt_num kind _ ⟨by omega, by omega⟩), if_pos c1, if_pos c1, bL_append, List.append_assoc, pBind_ok (rt_num to _ g1), pBind_ok (rt_args args _ ⟨g2, g3⟩), h3]
    rfl
  by_cases c2 : kind = 2
  · rw [endB_if c2] at he
    simp only [Bool.and_eq_true, decide_eq_true_eq] at he
    obtain ⟨⟨⟨q1, q2⟩, hg⟩, hg'⟩ := he
    obtain ⟨g1, g2, g3⟩ := goesB_small hg hf hb (by omega)
    obtain ⟨k1, k2, k3⟩ := goesB_small hg' hf hb (by omega)
    rw [pBind_ok (rt_num kind _ ⟨by omega, by omega⟩), if_neg c1, if_pos c2, if_neg c1, if_pos c2, encIs_two, bL_append, bL_append, bL_append, bL_append, List.append_assoc, List.append_assoc, List.append_assoc, List.append_assoc, pBind_ok (rt_num ta _ ⟨q1, by omega⟩), pBind_ok (rt_num to _ g1), pBind_ok (rt_args args _ ⟨g2, g3⟩), pBind_ok (rt_num els _ k1), pBind_ok (rt_args elses _ ⟨k2, k3⟩)]
    rfl
  · rw [endB_other c1 c2] at he
    simp only [Bool.and_eq_true, decide_eq_true_eq, beq_iff_eq] at he
    obtain ⟨⟨⟨⟨⟨c3, q1, q2⟩, h1⟩, h2⟩, h3⟩, h4⟩ := he
    obtain rfl := h1
    obtain rfl := h3
    have h2 : args = [] := List.eq_nil_of_length_eq_zero h2
    have h4 : elses = [] := List.eq_nil_of_length_eq_zero h4
    rw [pBind_ok (rt_num kind _ ⟨by omega, by omega⟩), if_neg c1, if_neg c2, if_pos c3, if_neg c1, if_neg c2, if_pos c3, pBind_ok (rt_num ta _ ⟨q1, by omega⟩), h2, h4]
    rfl
theorem rt_func : Rt pFunc encFunc (fun f => funcOk f = true ∧ funcK f) := fun f t ⟨h, hk⟩ => by
  obtain ⟨h1, h2, h3, h4, h5, h6, h7⟩ := funcOk_blocks h
  have hsev := rt_sev 16 (by omega) (rt_block (f := f) (fun b hb => (blockOk_params (h1 b hb)).1) h2) f.blocks t ⟨h2, fun b hb => ⟨h1 b hb, hk b hb⟩⟩
  unfold pFunc encFunc
  rw [bL_append, bL_append, List.append_assoc, List.append_assoc, pBind_ok (rt_text f.name _ (nameOk_le h3)), encIs_two, bL_append, List.append_assoc, pBind_ok (rt_num f.bind _ ⟨by omega, by omega⟩), pBind_ok (rt_num f.params _ ⟨by omega, by omega⟩), pBind_ok hsev]
  rfl
theorem rt_glob : Rt pGlob encGlob (fun g => globOk g = true ∧ globK g) := fun g t ⟨h, hk⟩ => by
  simp only [globOk, Bool.and_eq_true, decide_eq_true_eq] at h
  obtain ⟨⟨⟨h1, h2⟩, h3⟩, h4⟩ := h
  obtain ⟨name, bind, here, init⟩ := g
  simp only at h1 h2 h3
  unfold pGlob encGlob
  simp only
  cases here with
  | true =>
    rw [bL_append, bL_append, List.append_assoc, List.append_assoc, pBind_ok (rt_text name _ (nameOk_le h1)), encIs_two, bL_append, List.append_assoc, pBind_ok (rt_num bind _ ⟨by omega, by omega⟩), if_pos rfl, pBind_ok (rt_num 1 _ ⟨by omega, by omega⟩), if_neg (by omega), pBind_ok (rt_wide init t hk)]
    rfl
  | false =>
    rw [bL_append, bL_append, List.append_assoc, List.append_assoc, pBind_ok (rt_text name _ (nameOk_le h1)), encIs_two, bL_append, List.append_assoc, pBind_ok (rt_num bind _ ⟨by omega, by omega⟩), if_neg (by simp), pBind_ok (rt_num 0 _ ⟨by omega, by omega⟩), if_neg (by omega), pBind_ok (rt_wide init t hk)]
    rfl
theorem rt_mods : Rt pMods (fun m => encL encFunc m.funcs ++ encL encGlob m.globs) (fun m => ModOk m ∧ BitFit m) := fun m t ⟨h, hk⟩ => by
  unfold pMods
  simp only
  rw [bL_append, List.append_assoc, pBind_ok (rt_sev 16 (by omega) rt_func m.funcs _ ⟨h.nf, fun f hf => ⟨h.funcs f hf, hk.ks f hf⟩⟩), pBind_ok (rt_sev 16 (by omega) rt_glob m.globs _ ⟨h.ng, fun g hg => ⟨h.globs g hg, hk.inits g hg⟩⟩)]
  rfl
theorem encMod_inj {a b : Module} (ha : ModOk a) (hb : ModOk b) (ka : BitFit a) (kb : BitFit b) (h : encMod a = encMod b) : a = b := by
  have e : ∀ m, bL (encMod m) = bL magicB ++ bL (encL encFunc m.funcs ++ encL encGlob m.globs) := fun m => by unfold encMod; rw [bL_append]
  have h1 : bL (encL encFunc a.funcs ++ encL encGlob a.globs) = bL (encL encFunc b.funcs ++ encL encGlob b.globs) := by
    have := congrArg bL h
    rw [e, e] at this
    exact List.append_cancel_left this
  have h2 := rt_mods a [] ⟨ha, ka⟩
  have h3 := rt_mods b [] ⟨hb, kb⟩
  simp only at h2 h3
  rw [h1, h3] at h2
  injection h2 with h2
  injection h2 with h2
  exact h2.symm

end Go.Proofs.Ytciihchbiifgkaa
