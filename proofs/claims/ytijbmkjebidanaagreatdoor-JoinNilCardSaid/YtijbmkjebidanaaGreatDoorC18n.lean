/- The card of JoinNil: the row, its two listed variables tied to the program's text. -/
import Derived.Test.YtijbmkjebidanaaGreatDoorC18nb7
import Derived.Test.YtijbmkjebidanaaGreatDoorCards
import Derived.Test.YtijbmkjebidanaaGreatDoorTie
namespace Go.Proofs.YtijbmkjebidanaaGreatDoor
open Go
theorem joinNil_card:Rows.JoinNilCardSaid :=
  Claim7.holds_tied_plain_at .later [] [.listed,.data] true (true, "0d2761f63cedeaa21014d0049365032dbb92cb487989b837606cbd606b776cc7") false
    joinNil_holds (fun _ h=>by cases h) (by kernel_rfl) (fun _ h=>by cases h) joinNil_row_tie rfl ⟨rfl,rfl⟩ (by kernel_rfl) rfl
    (fun f fn hf hfn=>by
      obtain rfl:f=3:=Option.some.inj ((show Tryz.prog.funcNamed "vigil/vigillaw18.JoinNil" = some 3 by kernel_rfl).symm.trans hf) |>.symm
      obtain rfl:fn=Tryz.f3:=(Option.some.inj (Tryz.func3.symm.trans hfn)).symm
      exact ⟨by kernel_rfl,fun j t ht=>by
        rw [Tryz.params3] at ht
        have h3:t=29 ∨ t=3:=by
          rcases j with _|_|j
          · exact .inl (by simpa using ht.symm)
          · exact .inr (by simpa using ht.symm)
          · simp at ht
        rcases h3 with rfl|rfl
        · exact (show Tryz.prog.wantsStandIn 29=false by kernel_rfl)
        · exact (show Tryz.prog.wantsStandIn 3=false by kernel_rfl)⟩)
    (by kernel_rfl)
end Go.Proofs.YtijbmkjebidanaaGreatDoor
