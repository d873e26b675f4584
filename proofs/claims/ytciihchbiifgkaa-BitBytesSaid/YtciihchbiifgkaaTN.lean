/- Plain layer 6: the reading of bytes; what was laid is read as it was. -/
import Derived.Test.YtciihchbiifgkaaTL
namespace Go.Proofs.Ytciihchbiifgkaa
open Go.RowKit

abbrev PR (α : Type) := List UInt8 → Except Int (α × List UInt8)
def pBind {α β : Type} (p : PR α) (f : α → PR β) : PR β := fun l => match p l with
  | .ok (x, r) => f x r
  | .error c => .error c
def pRet {α : Type} (x : α) : PR α := fun l => .ok (x, l)
def pErr {α : Type} (c : Int) : PR α := fun _ => .error c
def pWide : PR Nat := fun l => match takeNum l with
  | (x, r, 0) => .ok (x, r)
  | (_, _, c + 1) => .error ((c + 1 : Nat) : Int)
def pMost (n : Nat) : PR Int := pBind pWide fun x => if n < x then pErr 4 else pRet (x : Int)
def pNum : PR Int := pMost 4294967295
def pText : PR ByteArray := pBind (pMost 16) fun n l => if l.length < n.toNat then .error 2 else .ok (⟨(l.take n.toNat).toArray⟩, l.drop n.toNat)
def pRep {α : Type} (p : PR α) : Nat → PR (List α)
  | 0 => pRet []
  | n + 1 => pBind p fun x => pBind (pRep p n) fun xs => pRet (x :: xs)
def pSev {α : Type} (most : Nat) (p : PR α) : PR (List α) := pBind (pMost most) fun n => pRep p n.toNat
def pArgs : PR (List Int) := pSev 6 pNum
def pInst : PR Inst := pBind pNum fun op =>
  if op < 1 ∨ 16 < op then pErr 3
  else if op = 1 then pBind pWide fun k => pRet ⟨op, 0, 0, k, ⟨#[]⟩, []⟩
  else if op ≤ 11 then pBind pNum fun a => pBind pNum fun b => pRet ⟨op, a, b, 0, ⟨#[]⟩, []⟩
  else if op = 12 then pBind pText fun s => pRet ⟨op, 0, 0, 0, s, []⟩
  else if op = 13 then pBind pNum fun a => pBind pText fun s => pRet ⟨op, a, 0, 0, s, []⟩
  else if op = 14 then pBind pText fun s => pBind pArgs fun l => pRet ⟨op, 0, 0, 0, s, l⟩
  else if op = 16 then pBind pNum fun a => pRet ⟨op, a, 0, 0, ⟨#[]⟩, []⟩
  else pRet ⟨op, 0, 0, 0, ⟨#[]⟩, []⟩
def pBlock : PR Block := pBind pNum fun params => pBind (pSev 32 pInst) fun ins => pBind pNum fun kind =>
  if kind = 1 then pBind pNum fun to => pBind pArgs fun args => pRet ⟨params, ins, kind, 0, to, args, 0, []⟩
  else if kind = 2 then pBind pNum fun ta => pBind pNum fun to => pBind pArgs fun args => pBind pNum fun els => pBind pArgs fun elses => pRet ⟨params, ins, kind, ta, to, args, els, elses⟩
  else if kind = 3 then pBind pNum fun ta => pRet ⟨params, ins, kind, ta, 0, [], 0, []⟩
  else pErr 3
def pFunc : PR Func := pBind pText fun name => pBind pNum fun bind => pBind pNum fun params => pBind (pSev 16 pBlock) fun blocks => pRet ⟨name, bind, params, blocks⟩
def pGlob : PR Glob := pBind pText fun name => pBind pNum fun bind => pBind pNum fun here => if 1 < here then pErr 3 else pBind pWide fun init => pRet ⟨name, bind, decide (here = 1), init⟩
def pMods : PR Module := pBind (pSev 16 pFunc) fun fs => pBind (pSev 16 pGlob) fun gs => pRet ⟨fs, gs⟩

/-- Bytes as a list. -/
def bL (b : ByteArray) : List UInt8 := b.data.toList
theorem bL_length (b : ByteArray) : (bL b).length = b.size := by unfold bL; rw [Array.length_toList]; rfl
@[simp] theorem bL_empty : bL ByteArray.empty = [] := rfl
theorem bL_inj {a b : ByteArray} (h : bL a = bL b) : a = b := by
  unfold bL at h
  cases a; cases b
  simp only at h
  rw [Array.toList_inj.1 h]
end Go.Proofs.Ytciihchbiifgkaa
