/- The law QueuePushes, of plain lists: the program and the reference push alike. -/
import Derived.Test.YthcmelchgnekpaaPAx13
import Derived.Test.YthcmelchgnekpaaXV17
namespace Go.Proofs.Ythcmelchgnekpaa.Pure
open Go.RowKit Go.Proofs.Ythcmelchgnekpaa.PA Go.Proofs.YthcmelchgnekpaaW.PrintWords Go.Proofs.YthcmelchgnekpaaW.PrintLast Go.Proofs.Ythcmelchgnekpaa.XGen Go.Proofs.Ythcmelchgnekpaa.XV17
set_option linter.unusedVariables false
set_option linter.unusedSimpArgs false
theorem QueuePushes : rollcalllaw17_QueuePushes.Pure := by
  intro l lat c0 c1 c2 c3 c4 c5 room _ _ _ _ _ _ _ _
  refine ⟨301, ?_⟩
  have key : ∀ q : Bool, (q = false → l.length ≤ 30) → rollcalllaw17_QueuePushes.j0 301 room q l lat c0 c1 c2 c3 c4 c5 = some true := by
    intro q hq
    rw [show (301 : Nat) = 300 + 1 from rfl, rollcalllaw17_QueuePushes.j0, live_f 300 (by omega)]
    cases q with
    | true => rw [if_pos rfl]; rfl
    | false =>
      have h30 := hq rfl
      have e1 := push_f l lat ⟨c0, c1, ⟨c2, c3, c4, c5⟩⟩ room (by omega)
      have e2 := refPush_f 300 l lat ⟨c0, c1, ⟨c2, c3, c4, c5⟩⟩ room (by omega) (by omega)
      simp only at e1 e2
      have h1 := PU_len l lat ⟨c0, c1, ⟨c2, c3, c4, c5⟩⟩ room
      rw [if_neg (by simp), e1, e2]
      simp only [Option.bind_some]
      rw [same_f 300 _ _ (by omega) (by omega)]
      rfl
  unfold rollcalllaw17_QueuePushes.f
  obtain ⟨q, hq, h⟩ := few_f 301 l lat (by omega)
  obtain ⟨q2, hq2, h2⟩ := changes_f 301 [(⟨c0, c1, ⟨c2, c3, c4, c5⟩⟩ : Ch)] 1 (by omega) (by omega)
  rw [hq, hq2]
  simp only [Option.bind_some]
  cases q with
  | true => rw [if_pos rfl]; exact key _ (fun _ => h rfl)
  | false => rw [if_neg (by simp)]; exact key _ (fun e => by cases e)
end Go.Proofs.Ythcmelchgnekpaa.Pure
