import Derived.Test.YtmajgldaplkpiaaGreatDoorQ24
import Derived.Test.YtmajgldaplkpiaaGreatDoorRows
import Derived.Shelf.Vars
import Derived.Stop.LaidErr
import Derived.MakeChecks
import Derived.Lib.LaidTab
import Derived.OpenShut
import Derived.LaidMore
import Derived.Lay
import Derived.HandedShaped
import Derived.Handed
namespace Go.Proofs.YtmajgldaplkpiaaGreatDoor
open Go.ChangeShapes Go.WideShapes Go.RowKit Go
set_option linter.unusedVariables false
set_option maxRecDepth 100000
set_option maxHeartbeats 400000
theorem gES : Tryz.prog.globalNamed "strconv.ErrSyntax" = some 2:=by kernel_rfl
theorem zKC : (Tryz.prog.globals[2]?).map (·.type)=some 146:=by kernel_rfl
theorem gER : Tryz.prog.globalNamed "strconv.ErrRange" = some 3:=by kernel_rfl
theorem zKD : (Tryz.prog.globals[3]?).map (·.type)=some 146:=by kernel_rfl
theorem cellsE : Tryz.prog.cellsOf 334=1:=by kernel_rfl
theorem cellsS : Tryz.prog.cellsOf 9=1:=by kernel_rfl
theorem starE : "*" ++ "errors.errorString" = "*errors.errorString" := by decide
theorem rowE (u:TypeId)(h:Tryz.prog.typeName? 3 u=some "*errors.errorString"):u=332:=
 typeName_ptr_named (nm := "errors.errorString") (by rw[starE];kernel_rfl) (by kernel_rfl) (by decide) u (by rw[starE];exact h)
theorem gPow : Tryz.prog.globalNamed "internal/strconv.uint64pow10" = some 1:=by kernel_rfl
theorem zIt : (Tryz.prog.globals[1]?).map (·.type)=some 282:=by kernel_rfl
theorem gAcc : Tryz.prog.globalNamed "unicode.CaseRanges" = some 8:=by kernel_rfl
theorem cellsU : Tryz.prog.cellsOf 226=1:=by kernel_rfl
theorem cellsP : Tryz.prog.cellsOf 282=20:=by kernel_rfl
theorem zJ4 {P:Program}{n:String}{d:DataW Unit}{r:List (String×DataW Unit)}{W:World}{g:Nat}(h:laidMet P ((n,d)::r) W)(hg:P.globalNamed n=some g):g<W.heap.size:=by
 obtain⟨ps,⟨g0,t0,cs0,f0,p0,q0,hg0,ht0,hv0,_⟩,_⟩:=h;unfold World.var? at hv0;rw[hg]at hv0;simp only[Option.bind_some]at hv0;cases hh:W.heap[g]? with
 | none=>simp[hh]at hv0
 | some o=>exact(Array.getElem?_eq_some_iff.1 hh).1
theorem env_of {W:World}(hsh:W.ShapedOpen Tryz.prog)(hL:laidMet Tryz.prog Rows.assemblyVirtualsRow.laid W):Env W:=by
 obtain⟨m,hm⟩:=cell_of_shapedOpen_int (P:=Tryz.prog) (g:=0) (t:=3) (zero:=#[.int .i64 0]) hsh (of_decide_eq_true (by kernel_rfl)) (by kernel_rfl) rfl (by kernel_rfl) (by kernel_rfl) Tryz.underlying3;have hLr:=hL.tail.tail.tail.tail;have hA:=zJ4 hL.tail.tail.tail.tail.tail.tail gAcc;obtain⟨ar,sr,hvr,-,-,-⟩:=laid_sentinel hLr gER zKD Tryz.underlying146 rowE Tryz.underlying332 Tryz.underlying334 rfl rfl Tryz.underlying9 cellsE cellsS;obtain⟨asx,ssx,hvs,-,-,-⟩:=laid_sentinel hLr.tail gES zKC Tryz.underlying146 rowE Tryz.underlying332 Tryz.underlying334 rfl rfl Tryz.underlying9 cellsE cellsS;have c5:W.cell? ⟨2,0,none⟩=some (.iface 332 (.pointer (some asx))):=by have h0:=World.var?_cell gES hvs 0;simpa using h0
 have c6:W.cell? ⟨3,0,none⟩=some (.iface 332 (.pointer (some ar))):=by have h0:=World.var?_cell gER hvr 0;simpa using h0
 exact⟨⟨m,hm⟩,⟨⟨_,c5,.inr ⟨_,_,rfl⟩⟩,⟨_,c6,.inr ⟨_,_,rfl⟩⟩⟩,Lib.tabIs_of_head gPow zIt Tryz.underlying282 Tryz.underlying226 cellsU cellsP hL.tail.tail,hA⟩
section
variable {H:Type}{enc:TypeId×Value->H}
theorem returns_laid_sized {a:Assume}{C:Checked}{os:Os}{f:FuncId}{fn:Func}{s:ChangeSpec}{conds:List PathCond}{apart fresh handsOn again:Bool}{X:World->Array Value->Prop}
  (hX:∀ (w w':World) (args:Array Value),w.heap=w'.heap->X w args->X w' args)
  (own:ownKnob C.prog.godebug=none) (started:os.Started) (noInit:C.prog.inits.idxOf? f=none) (hfn:C.prog.funcs[f]?=some fn)
  (witness:∃ (w:World) (tape:Go.Tape) (i:Input),w.os=os/\(w.forCall tape i).Shaped C.prog/\i.vars=[]/\Input.okWide C.prog (w.forCall tape i) .any w.heap.size f i/\
   ((s.pre enc C.prog fn conds apart (w.forCall tape i).memory i.args/\X (w.forCall tape i).memory i.args)/\sizedMet enc C.prog fn (OpenSpec.ofChange s) apart (w.forCall tape i).memory i.args)/\a.holds C.prog (lone (Frame.enter C.prog f i.args .normal) [] (w.forCall tape i)))
  (contract:∀ (W:World) (base:Nat) (args:Array Value) (ds2 gs2:List (DataW H)) (before2:List MemPlace),
   (∀ (j:Nat) t v,fn.params[j]?=some t->args[j]?=some v->Value.okWide C.prog W .any base t v)->
   DataW.Whole enc C.prog fn.params.toList s.vars apart W args.toList ds2 gs2 before2->
   (DataW.weightsEach C.prog (fn.params.toList++(OpenSpec.ofChange s).bare.plain.varTypes C.prog) (ds2++gs2)).all (·<=reachBytes)=true->
   X W args->W.ShapedOpen C.prog->
   Calls C.prog f args W fun e W'=>∃ v,e=.returned v/\s.post enc C.prog fn apart fresh handsOn again W args v W'):
  ReturnsInHanded a C os f .any (fun w args=>(s.pre enc C.prog fn conds apart w args/\X w args)/\sizedMet enc C.prog fn (OpenSpec.ofChange s) apart w args) (s.post enc C.prog fn apart fresh handsOn again):=by
 refine returnsInHanded_of_calls own started noInit witness ?_;intro w tape i _ hsh _ hok hpre hholds;obtain⟨_,_,_,fn',hfn',_,_,_,_,hval⟩:=hok;have e:fn'=fn:=Option.some.inj (hfn'.symm.trans hfn);subst e;obtain⟨⟨⟨ds,gs,before,hw,hc⟩,hx⟩,_,ds2,gs2,before2,hw2,hz⟩:=hpre;have hw2':=DataW.Whole.of_heap (w':=w.forCall tape i) (by rfl) hw2;refine(contract (w.forCall tape i) w.heap.size i.args ds2 gs2 before2 hval hw2' hz (hX _ _ _ (by rfl) hx) hsh).mono fun e W' ⟨v,he,hp⟩=>?_
 subst he;exact ChangeSpec.post_blind hp
end
end Go.Proofs.YtmajgldaplkpiaaGreatDoor
