/-
  What can be read, beside one thing more; how long a level is.
-/
import Derived.Test.YtpelpbnmjciheaaSkipL
namespace Go.Proofs.Ytpelpbnmjciheaa
open Go.RowKit Go.Rp

theorem Reads.more {B : Nat} {w : World} {L : List Res} {sz n : Nat} {A : Option Addr} {xs : List Value} (h : Reads B w L sz A n xs) (a : Res) : Reads B w (a :: L) sz A n xs := fun w' b h' hb => h w' (b ++ [a]) (by simpa using h') hb
theorem levL_le {B : Nat} {w : World} {p m : Nat} {l : List It} {L : List Res} (h : At B w (skR p m l :: L)) (q : Nat) : (levL q l).length ≤ 1000 := by
  have h1 := sk_len h
  have : (levL q l).length ≤ l.length := by unfold levL; rw [List.length_map]; exact List.length_filter_le _ _
  omega
end Go.Proofs.Ytpelpbnmjciheaa
