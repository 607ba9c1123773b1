/-
  Plain facts on strings that the walks of this seat use: a string as a list of bytes, bytes made a string.
-/
import Derived.Test.YtfabeihlfgemdaaDoorBase
import Derived.Lib.AppendStr
import Derived.Lib.Strings
import Derived.Laws.BytesArg
namespace Go.Proofs.YtfabeihlfgemdaaDoor
open Go.RowKit

def toL (s : ByteArray) : List UInt8 := s.data.toList
def mkS (l : List UInt8) : ByteArray := ⟨l.toArray⟩
theorem toL_mk (l : List UInt8) : toL (mkS l) = l := rfl
theorem mk_toL (s : ByteArray) : mkS (toL s) = s := by obtain ⟨⟨l⟩⟩ := s; rfl
theorem toL_len (s : ByteArray) : (toL s).length = s.size := by obtain ⟨⟨l⟩⟩ := s; rfl
theorem toL_extract (s : ByteArray) (a b : Nat) : toL (s.extract a b) = ((toL s).drop a).take (b - a) := Lib.extract_data s a b
theorem extract_mk (s : ByteArray) (a b : Nat) : s.extract a b = mkS (((toL s).drop a).take (b - a)) := by rw [← toL_extract, mk_toL]
theorem toL_append (a b : ByteArray) : toL (a ++ b) = toL a ++ toL b := by
  obtain ⟨⟨l⟩⟩ := a; obtain ⟨⟨m⟩⟩ := b
  simp [toL]
theorem toL_inj {a b : ByteArray} (h : toL a = toL b) : a = b := by rw [← mk_toL a, h, mk_toL]
theorem size_mk (l : List UInt8) : (mkS l).size = l.length := rfl
theorem get_toL (s : ByteArray) (k : Nat) (h : k < s.size) : s[k] = (toL s)[k]'(by rw [toL_len]; exact h) := by obtain ⟨⟨l⟩⟩ := s; rfl
theorem toL_take_snoc (s : ByteArray) (k : Nat) (h : k < s.size) : (toL s).take (k + 1) = (toL s).take k ++ [s[k]] := by
  rw [List.take_succ_eq_append_getElem (by rw [toL_len]; exact h), get_toL s k h]
theorem strCells_bytesV (s : ByteArray) : Lib.strCells s = bytesV (toL s) := by
  obtain ⟨⟨l⟩⟩ := s
  unfold Lib.strCells bytesV toL
  simp
  induction l with
  | nil => rfl
  | cons x l ih => simpa using ih
/-- string(b): the bytes as they are. -/
theorem run_string_of {P : Program} {w : World} {B n c : Nat} {A : Option Addr} {l : List UInt8} {src e dst : TypeId} (hs : P.underlying src = some (.slice e)) (he : P.underlying e = some (.int .u8)) (hd : P.underlying dst = some .string)
    (h : Sl w B 1 A n c (bytesV l)) : (convert src dst (.slice A n c)).run P w = .ok (.string (mkS l)) w := by
  have hl : l.length = n := h.len (fun _ => rfl) (by decide)
  rcases Nat.eq_zero_or_pos n with h0 | h0
  · subst h0
    have hnil : l = [] := List.eq_nil_of_length_eq_zero hl
    subst hnil
    cases A with
    | none => exact run_convert_bytes_nil w src e hs he 0 c dst hd
    | some a =>
      rw [run_convert_bytes_string w src dst e _ 0 c hs he hd]
      simp [Conv.bytesToString, mkS]
      rfl
  · obtain ⟨b, off, x, rfl, hb, _, _⟩ := h.at1 h0
    have hc : ∀ i, i < n → w.cell? ⟨b, off + i, none⟩ = some (.int .u8 ((l.map fun x => (x.toNat : Int)).getD i 0)) := by
      intro i hi
      obtain ⟨b', off', x', e', _, hx', hc'⟩ := h.at1 hi
      injection e' with e'
      injection e' with e1 e2 _
      subst e1 e2
      rw [hc', List.getD_eq_getElem?_getD, List.getElem?_map, hx']; rfl
    rw [run_convert_bytes_arg w src e hs he b off n c (l.map fun x => (x.toNat : Int)) (by simpa using hl) hc dst hd]
    have : strOfNums (l.map fun x => (x.toNat : Int)) = mkS l := by
      simp [strOfNums, mkS]
      rw [List.map_congr_left (g := id) (fun x _ => by simp), List.map_id]
    rw [this]
theorem own_shape {w : World} {base : Nat} {e : TypeId} {size n : Nat} {v : Value} {xs : List Value} (h : w.ownsRow base e size v n xs) : ∃ A c, v = .slice A n c := by
  rcases h.2 with ⟨hv, hn⟩ | ⟨g, cap, cur, hv, _⟩
  · exact ⟨none, 0, by rw [hv, hn]⟩
  · exact ⟨_, cap, hv⟩
theorem own_ne {w : World} {base g : Nat} {e : TypeId} {size n : Nat} {v : Value} {xs : List Value} (h : w.ownsRow base e size v n xs) (hg : g < base) : some g ≠ v.ownBlock :=
  fun he => by have := (h.lt g he.symm).1; omega
/-- append(b, s...) of a string onto a slice of the call's own. -/
theorem wpList_app_str {P : Program} {w : World} {ops : Array Oper} {rest : List Oper} {o : Oper} {a : Act} {Q : Exit → Act → World → Prop} (hgd : o.guard = none) (sl x : Operand) (t u : TypeId)
    (ho : o.op = .call { callee := .builtin .append, args := #[sl, x], argTypes := #[t, u] })
    {base : Nat} {e : TypeId} (ht : P.underlying t = some (.slice e)) (hu : P.underlying u = some .string) (hinfo : (P.info? e).map (fun i => (i.zero, i.size, i.bytes)) = some (some (.int .u8 0), 1, 1))
    {v : Value} {n : Nat} {xs : List Value} (hs : a.eval sl = v) (hown : w.ownsRow base e 1 v n xs) {s : ByteArray} (hx : a.eval x = .string s)
    (hbytes : n + s.size ≤ 140737488355328) (hbase : base ≤ w.heap.size)
    (h : ∀ A' c' w', w'.ownsRow base e 1 (.slice A' (n + s.size) c') (n + s.size) (xs ++ bytesV (toL s)) → w.grownBy w' v.ownBlock → wpList P ops Q rest (a.put o.dst (.slice A' (n + s.size) c')) w') : wpList P ops Q (o :: rest) a w := by
  obtain ⟨i, h1, h2, h3, h4⟩ := info_parts hinfo
  refine Lib.wpList_append_own_string w hgd sl x t u ho base e i ht hu h1 h2 h3 h4 v n xs hs hown s hx (by simp only [maxLen]; omega) hbytes hbase ?_
  intro v' w' ho' hg' _
  rw [strCells_bytesV] at ho'
  obtain ⟨A', c', rfl⟩ := own_shape ho'
  exact h A' c' w' ho' hg'
end Go.Proofs.YtfabeihlfgemdaaDoor
