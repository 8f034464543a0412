import Derived.Test.YtinfjnndbfahhaaGreatDoorQ21
import Derived.Test.YtinfjnndbfahhaaGreatDoorRows
import Derived.Shelf.Vars
import Derived.Stop.LaidErr
import Derived.MakeChecks
import Derived.Lib.LaidTab
import Derived.OpenShut
import Derived.LaidMore
import Derived.Lay
import Derived.HandedShaped
import Derived.Handed
namespace Go.Proofs.YtinfjnndbfahhaaGreatDoor
open Go.ChangeShapes Go.WideShapes Go.RowKit Go
set_option linter.unusedVariables false
set_option maxRecDepth 100000
set_option maxHeartbeats 400000
theorem gES : Tryz.prog.globalNamed "strconv.ErrSyntax" = some 4:=by kernel_rfl
theorem zLH : (Tryz.prog.globals[4]?).map (·.type)=some 249:=by kernel_rfl
theorem gER : Tryz.prog.globalNamed "strconv.ErrRange" = some 5:=by kernel_rfl
theorem zLI : (Tryz.prog.globals[5]?).map (·.type)=some 249:=by kernel_rfl
theorem cellsE : Tryz.prog.cellsOf 399=1:=by kernel_rfl
theorem cellsS : Tryz.prog.cellsOf 9=1:=by kernel_rfl
theorem starE : "*" ++ "errors.errorString" = "*errors.errorString" := by decide
theorem rowE (u:TypeId)(h:Tryz.prog.typeName? 3 u=some "*errors.errorString"):u=397:=
 typeName_ptr_named (nm := "errors.errorString") (by rw[starE];kernel_rfl) (by kernel_rfl) (by decide) u (by rw[starE];exact h)
theorem gPow : Tryz.prog.globalNamed "internal/strconv.uint64pow10" = some 6:=by kernel_rfl
theorem zJp : (Tryz.prog.globals[6]?).map (·.type)=some 401:=by kernel_rfl
theorem gAcc : Tryz.prog.globalNamed "unicode.CaseRanges" = some 1:=by kernel_rfl
theorem gD64 : Tryz.prog.globalNamed "math/bits.deBruijn64tab" = some 8:=by kernel_rfl
theorem cellsU : Tryz.prog.cellsOf 300=1:=by kernel_rfl
theorem cellsP : Tryz.prog.cellsOf 401=20:=by kernel_rfl
theorem zIP {P:Program}{n:String}{d:DataW Unit}{r:List (String×DataW Unit)}{W:World}{g:Nat}(h:laidMet P ((n,d)::r) W)(q:P.globalNamed n=some g):g<W.heap.size:=by
 obtain⟨z,⟨A,C,u,D,F,I,v,y,f,_⟩,_⟩:=h;unfold World.var? at f;rw[q]at f;simp only[Option.bind_some]at f;cases hh:W.heap[g]? with
 | none=>simp[hh]at f
 | some o=>exact(Array.getElem?_eq_some_iff.1 hh).1
theorem env_of {W:World}(o:W.ShapedOpen Tryz.prog)(h:laidMet Tryz.prog Rows.assemblyNothingRow.laid W):Env W:=by
 obtain⟨m,z⟩:=cell_of_shapedOpen_int (P:=Tryz.prog) (g:=0) (t:=3) (zero:=#[.int .i64 0]) o (of_decide_eq_true (by kernel_rfl)) (by kernel_rfl) rfl (by kernel_rfl) (by kernel_rfl) Tryz.underlying3;have f:=h.tail.tail.tail.tail;have I:=zIP h.tail.tail.tail.tail.tail.tail gAcc;have J:=zIP h.tail gD64;obtain⟨A,L,q,-,-,-⟩:=laid_sentinel f gER zLI Tryz.underlying249 rowE Tryz.underlying397 Tryz.underlying399 rfl rfl Tryz.underlying9 cellsE cellsS;obtain⟨u,C,v,-,-,-⟩:=laid_sentinel f.tail gES zLH Tryz.underlying249 rowE Tryz.underlying397 Tryz.underlying399 rfl rfl Tryz.underlying9 cellsE cellsS;have D:W.cell? ⟨4,0,none⟩=some (.iface 397 (.pointer (some u))):=by have y:=World.var?_cell gES v 0;simpa using y
 have F:W.cell? ⟨5,0,none⟩=some (.iface 397 (.pointer (some A))):=by have y:=World.var?_cell gER q 0;simpa using y
 exact⟨⟨m,z⟩,⟨⟨_,D,.inr ⟨_,_,rfl⟩⟩,⟨_,F,.inr ⟨_,_,rfl⟩⟩⟩,Lib.tabIs_of_head gPow zJp Tryz.underlying401 Tryz.underlying300 cellsU cellsP h.tail.tail,by omega⟩
section
variable {H:Type}{enc:TypeId×Value->H}
theorem returns_laid_sized {a:Assume}{C:Checked}{os:Os}{f:FuncId}{fn:Func}{s:ChangeSpec}{y:List PathCond}{g z q A:Bool}{X:World->Array Value->Prop}
  (hX:∀ (w w':World) (args:Array Value),w.heap=w'.heap->X w args->X w' args)
  (a2:ownKnob C.prog.godebug=none) (D:os.Started) (I:C.prog.inits.idxOf? f=none) (a3:C.prog.funcs[f]?=some fn)
  (F:∃ (w:World) (h:Go.Tape) (i:Input),w.os=os/\(w.forCall h i).Shaped C.prog/\i.vars=[]/\Input.okWide C.prog (w.forCall h i) .any w.heap.size f i/\
   ((s.pre enc C.prog fn y g (w.forCall h i).memory i.args/\X (w.forCall h i).memory i.args)/\sizedMet enc C.prog fn (OpenSpec.ofChange s) g (w.forCall h i).memory i.args)/\a.holds C.prog (lone (Frame.enter C.prog f i.args .normal) [] (w.forCall h i)))
  (u:∀ (W:World) (N:Nat) (args:Array Value) (J L:List (DataW H)) (o:List MemPlace),
   (∀ (j:Nat) t v,fn.params[j]?=some t->args[j]?=some v->Value.okWide C.prog W .any N t v)->
   DataW.Whole enc C.prog fn.params.toList s.vars g W args.toList J L o->
   (DataW.weightsEach C.prog (fn.params.toList++(OpenSpec.ofChange s).bare.plain.varTypes C.prog) (J++L)).all (·<=reachBytes)=true->
   X W args->W.ShapedOpen C.prog->
   Calls C.prog f args W fun e W'=>∃ v,e=.returned v/\s.post enc C.prog fn g z q A W args v W'):
  ReturnsInHanded a C os f .any (fun w args=>(s.pre enc C.prog fn y g w args/\X w args)/\sizedMet enc C.prog fn (OpenSpec.ofChange s) g w args) (s.post enc C.prog fn g z q A):=by
 refine returnsInHanded_of_calls a2 D I F ?_;intro w h i _ a4 _ a5 O Y;obtain⟨_,_,_,a6,R,_,_,_,_,U⟩:=a5;have e:a6=fn:=Option.some.inj (R.symm.trans a3);subst e;obtain⟨⟨⟨ds,gs,Z,hw,hc⟩,hx⟩,_,J,L,o,a7,hz⟩:=O;have V:=DataW.Whole.of_heap (w':=w.forCall h i) (by rfl) a7;refine(u (w.forCall h i) w.heap.size i.args J L o U V hz (hX _ _ _ (by rfl) hx) a4).mono fun e W' ⟨v,he,hp⟩=>?_
 subst he;exact ChangeSpec.post_blind hp
end
end Go.Proofs.YtinfjnndbfahhaaGreatDoor
