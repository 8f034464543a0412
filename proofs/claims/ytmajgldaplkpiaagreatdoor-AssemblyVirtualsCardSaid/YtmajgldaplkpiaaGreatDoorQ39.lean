import Derived.Test.YtmajgldaplkpiaaGreatDoorQ35
namespace Go.Proofs.YtmajgldaplkpiaaGreatDoor
open Go.RowKit Go.Maps
set_option linter.unusedVariables false
set_option maxRecDepth 100000
set_option maxHeartbeats 2000000
theorem zGc (w:World):Calls Tryz.prog 231 #[.int .u64 0] w fun e w'=>(∃ k,e=.returned (.int .i64 k))/\w'=w:=by
 go_enter Tryz.func231,Tryz.ntmps231
 go_wp2_with fail
 go_ret;exact⟨⟨_,rfl⟩,rfl⟩
theorem zH4 (w:World):Calls Tryz.prog 221 #[.int .u64 0] w fun e w'=>(∃ k,e=.returned (.int .i64 k))/\w'=w:=by
 have h:=zGc w
 go_enter Tryz.func221,Tryz.ntmps221
 go_wp2_with fail
 refine h.mono ?_;rintro e w' ⟨⟨k,rfl⟩,rfl⟩
 go_wp2_with fail
 go_ret;exact⟨⟨_,rfl⟩,rfl⟩
theorem zHB (a:Option Addr)(c base:Nat)(S:List Src)(w:World)(hown:w.ownsRow base 163 13 (.slice a S.length c) S.length (sflat S))(hS:S.length<=1000):
  Calls Tryz.prog 162 #[.slice a S.length c,.func (.func 163) #[] #[]] w fun e w'=>e=.returned (.tuple #[])/\
   (∃ S':List Src,S'.Perm S/\S'.Pairwise (fun x y=>x.at_<=y.at_)/\w'.ownsRow base 163 13 (.slice a S'.length c) S'.length (sflat S'))/\Fr (fun b=>(Value.slice a S.length c).ownBlock=some b) w w':=by
 by_cases hne:S=[]
 ·subst hne;refine(zHD a c _ w (zH4 w)).mono ?_;rintro e w' ⟨rfl,rfl⟩;exact⟨rfl,⟨[],.refl _,.nil,hown⟩,Fr.refl _ _⟩
 ·exact zIQ a c base S w hown hne hS
end Go.Proofs.YtmajgldaplkpiaaGreatDoor
