/- Plain: what is drawn, one after the other, of the keys of numbers. -/
import Derived.Test.YtkllljgnpcmojaaSrc
import Derived.Test.YtkllljgnpcmojaaKey
namespace Go.Proofs.Ytkllljgnpcmojaa
open Go

theorem nk_inj {a b : Nat} (ha : a < 256) (hb : b < 256) (h : nk a = nk b) : a = b := by
  have h1 := congrArg (fun k : Key => k.1.head?) h
  simp only [nk, List.head?_cons, Option.some.injEq] at h1
  have h2 := congrArg UInt8.toNat h1
  simpa [Nat.mod_eq_of_lt ha, Nat.mod_eq_of_lt hb] using h2
theorem nk_ne (n : Nat) : nk n ≠ k0 := by
  intro h
  have h1 := congrArg (fun k : Key => k.1[31]?) h
  simp [nk, k0] at h1
/-- How many are taken behind so many draws. -/
def uat (u : Int) (m i : Nat) : Int := if i = 0 then u else ((un u m + i : Nat) : Int)
theorem uat_zero (u : Int) (m : Nat) : uat u m 0 = u := rfl
theorem uat_succ (u : Int) (m i : Nat) : uat u m (i + 1) = ((un u m + (i + 1) : Nat) : Int) := by unfold uat; rw [if_neg (by omega)]
theorem un_uat (u : Int) (m i : Nat) (h : i ≤ m - un u m) : un (uat u m i) m = un u m + i := by
  unfold uat
  have hle := un_le u m
  split
  · rename_i h0; subst h0; rfl
  · unfold un at *; omega
def nks (m : Nat) : List Key := (List.range m).map nk
theorem nks_length (m : Nat) : (nks m).length = m := by simp [nks]
theorem nks_at (m j : Nat) (h : j < m) : (nks m)[j]? = some (nk j) := by simp [nks, h]
theorem nx_uat (u : Int) (m i : Nat) (hm : m < 256) (h : i < m - un u m) : nx (nks m) (uat u m i) = (nk (un u m + i), uat u m (i + 1), 0) := by
  have hle := un_le u m
  have hun : un (uat u m i) (nks m).length = un u m + i := by rw [nks_length]; exact un_uat u m i (by omega)
  rw [nx_good (k := nk (un u m + i))]
  · rw [hun, uat_succ]; rfl
  · rw [hun]; exact nks_at m _ (by omega)
  · rintro (h1 | h1)
    · exact nk_ne _ h1
    · rw [hun] at h1
      obtain ⟨j, hj, he⟩ := List.mem_iff_getElem.1 h1
      rw [List.length_take, nks_length] at hj
      rw [List.getElem_take] at he
      have hj2 : j < m := by omega
      have := nks_at m j hj2
      rw [List.getElem?_eq_getElem (by rw [nks_length]; exact hj2), he] at this
      have := nk_inj (by omega) (by omega) (Option.some.inj this)
      omega
theorem nx_uat_end (u : Int) (m : Nat) : nx (nks m) (uat u m (m - un u m)) = (k0, uat u m (m - un u m), 80) := by
  have hle := un_le u m
  refine nx_none ?_
  rw [nks_length, un_uat u m _ (Nat.le_refl _)]
  omega
end Go.Proofs.Ytkllljgnpcmojaa
