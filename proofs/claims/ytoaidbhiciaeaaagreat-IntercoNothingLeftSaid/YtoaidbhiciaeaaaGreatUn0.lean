/- Walks and plain facts that the claim rests on (EliP, IcoL). No condition. -/
import Derived.Test.YtoaidbhiciaeaaaGreatPo30
import Derived.Test.YtoaidbhiciaeaaaGreatPo35
import Derived.Test.YtoaidbhiciaeaaaGreatPo39
import Derived.Test.YtoaidbhiciaeaaaGreatPo41
set_option linter.unusedSimpArgs false
set_option linter.unusedVariables false
set_option maxHeartbeats 16000000
section
namespace Go.Proofs.YtoaidbhiciaeaaaGreat
open Go.RowKit
noncomputable def idsF (g:Grp) (es:List JV) (hs:List Hol) (ms:List MV) (items:List Itm) (p:Int):List Int × Int:=if errI g es hs ms p=0 then ((elisS g es hs ms items p).map Eli.id,0) else ([],errI g es hs ms p)
noncomputable def remF (g:Grp) (es:List JV) (hs:List Hol) (ms:List MV) (items:List Itm) (p id:Int):Int × Int × Int:=if errI g es hs ms p=0 then (match (elisS g es hs ms items p).find? (fun x=>x.id == id) with | some x=>(totS x.own,remA g (dayA g p) x.own,0) | none=>(0,0,8)) else (0,0,errI g es hs ms p)
end Go.Proofs.YtoaidbhiciaeaaaGreat

end
section
namespace Go.Proofs.YtoaidbhiciaeaaaGreat
open Go.RowKit
theorem find_nodup {α κ:Type} [DecidableEq κ] (f:α→κ):∀ {l:List α},(l.map f).Nodup→∀ (k:κ) (x:α),l.find? (fun y=>decide (f y=k))=some x↔x∈l∧f x=k
 | [],_,k,x=>by simp
 | y :: t,h,k,x=>by
  rw [List.map_cons,List.nodup_cons] at h
  rw [List.find?_cons]
  by_cases hy:f y=k
  ·rw [decide_eq_true hy]
   constructor
   ·intro e;cases e;exact ⟨List.mem_cons_self ..,hy⟩
   ·rintro ⟨h1,h2⟩
    rcases List.mem_cons.1 h1 with e | e
    ·rw [e]
    ·exact absurd (List.mem_map.2 ⟨x,e,h2.trans hy.symm⟩) h.1
  ·rw [decide_eq_false hy]
   simp only
   rw [find_nodup f h.2 k x,List.mem_cons]
   constructor
   ·rintro ⟨h1,h2⟩;exact ⟨.inr h1,h2⟩
   ·rintro ⟨h1 | h1,h2⟩
    ·exact absurd (h1 ▸ h2) hy
    ·exact ⟨h1,h2⟩
theorem elisS_ids {g:Grp} {es:List JV} {hs:List Hol} {ms:List MV} {items:List Itm} {p:Int} (h:errI g es hs ms p=0):((elisS g es hs ms items p).map Eli.id).Nodup:=
 ((sortE_perm _).map _).nodup_iff.2 (elis_ids (errI_zero h).2.2)
theorem rem_eli {g:Grp} {es:List JV} {hs:List Hol} {ms:List MV} {items:List Itm} {p:Int} (h:errI g es hs ms p=0) {x:Eli} (hx:x∈elisS g es hs ms items p):remF g es hs ms items p x.id=(totS x.own,remA g (dayA g p) x.own,0):=by
 unfold remF
 rw [if_pos h]
 have:=(find_nodup Eli.id (elisS_ids h) x.id x).2 ⟨hx,rfl⟩
 have hq:(fun y:Eli=>y.id == x.id)=fun y=>decide (y.id=x.id):=by funext y;rw [Bool.eq_iff_iff];simp
 rw [hq,this]
end Go.Proofs.YtoaidbhiciaeaaaGreat

end
