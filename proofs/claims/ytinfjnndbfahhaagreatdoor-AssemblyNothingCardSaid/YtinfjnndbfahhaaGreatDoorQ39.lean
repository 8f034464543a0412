import Derived.Test.YtinfjnndbfahhaaGreatDoorQ38
namespace Go.Proofs.YtinfjnndbfahhaaGreatDoor
open Go.RowKit Go.Maps Go.Shelf
set_option linter.unusedVariables false
set_option maxRecDepth 100000
set_option maxHeartbeats 8000000
def heldR : Value->Option (DataW Value×List MemPlace):=fun v=>some (.held v,[])
def opsD : DataW Value:=((((((DataW.map []).put (.int .i64 2) (.held (.func (.func 50) #[] #[]))).put (.int .i64 3) (.held (.func (.func 51) #[] #[]))).put (.int .i64 4) (.held (.func (.func 52) #[] #[]))).put (.int .i64 5) (.held (.func (.func 53) #[] #[]))).put (.int .i64 6) (.held (.func (.func 54) #[] #[]))).put (.int .i64 7) (.held (.func (.func 55) #[] #[]))
def OpsM (w:World)(mb:Nat):Prop:=w.ownsMap Tryz.prog 3 heldR mb 6 opsD
theorem zeroOp (w:World):(zeroValue 69).run Tryz.prog w=.ok .nilFunc w:=by kernel_rfl
theorem mapOp : Tryz.prog.underlying 71=some (.map 3 69):=Tryz.underlying71
theorem OpsM.remove {w:World}{g:Nat}(h:OpsM w g):(Instr.lookup 71 (.map (some g)) (.int .i64 2) true).run Tryz.prog w=.ok (.tuple #[.func (.func 50) #[] #[],.bool true]) w:=by
 obtain⟨v,u,f,o⟩:=World.ownsMap.look_ok h lawI mapOp (zeroOp w) (zd:=.held .nilFunc) (zp:=[]) rfl (keyOf_int_mk Tryz.underlying3 (a:=2) (by kernel_rfl));have e:opsD.atKey (.int .i64 2) (.held .nilFunc)=.held (.func (.func 50) #[] #[]):=by rfl
 have q:Maps.has opsD (.int .i64 2)=true:=by rfl
 rw[e]at o;rw[q]at f;cases o;exact f
theorem zLz (w:World):Calls Tryz.prog 22 #[] w fun e w'=>∃ f,e=.returned (.map (some f))/\OpsM w' f/\Fr No w w':=by
 have O:=@run_makeMap Tryz.prog;obtain⟨R,U,g,o⟩:=World.ownsMap.update (World.ownsMap_made w Tryz.prog 3 heldR) lawI mapOp (by unfold maxLen;omega) (val:=.func (.func 50) #[] #[]) (keyOf_int_mk Tryz.underlying3 (a:=2) (by kernel_rfl)) rfl;obtain⟨V,X,q,u⟩:=World.ownsMap.update g lawI mapOp (by unfold maxLen;omega) (val:=.func (.func 51) #[] #[]) (keyOf_int_mk Tryz.underlying3 (a:=3) (by kernel_rfl)) rfl;obtain⟨Y,Z,v,y⟩:=World.ownsMap.update q lawI mapOp (by unfold maxLen;omega) (val:=.func (.func 52) #[] #[]) (keyOf_int_mk Tryz.underlying3 (a:=4) (by kernel_rfl)) rfl;obtain⟨w4,r4,z,A⟩:=World.ownsMap.update v lawI mapOp (by unfold maxLen;omega) (val:=.func (.func 53) #[] #[]) (keyOf_int_mk Tryz.underlying3 (a:=5) (by kernel_rfl)) rfl;obtain⟨w5,r5,C,D⟩:=World.ownsMap.update z lawI mapOp (by unfold maxLen;omega) (val:=.func (.func 54) #[] #[]) (keyOf_int_mk Tryz.underlying3 (a:=6) (by kernel_rfl)) rfl;obtain⟨F,r6,I,J⟩:=World.ownsMap.update C lawI mapOp (by unfold maxLen;omega) (val:=.func (.func 55) #[] #[]) (keyOf_int_mk Tryz.underlying3 (a:=7) (by kernel_rfl)) rfl;have L:Fr (Is w.heap.size) (w.alloc (.map #[] 0)) F:=(((((Fr.of_grown_some o).step (Fr.of_grown_some u) zi).step (Fr.of_grown_some y) zi).step (Fr.of_grown_some A) zi).step (Fr.of_grown_some D) zi).step (Fr.of_grown_some J) zi;have N:=zh (And.intro (show OpsM F w.heap.size from I) (((Fr.refl No w).alloc (.map #[] 0)).step L (fun b hb h=>by unfold Is at h;omega)));clear g q v z C I o u y A D J L
 go_enter Tryz.func22,Tryz.ntmps22
 go_wp2_with fail
 go_ret;exact⟨_,rfl,N.out.1,N.out.2⟩
theorem OpsM.fr {S:Nat->Prop}{w w':World}{f:Nat}(h:OpsM w f)(g:Fr S w w')(o:¬ S f):OpsM w' f:=g.ownsMap h o
theorem RemK.src {w z w':World}{A f:Nat}{ds:List Dev}{n:Int}{C:Nat}{D:Int}(h:RemK z w' A f ds n C D)(F:Fr No w z)(o:∀ d∈ds,∃ l,Atts w d.aa d.ac l/\d.an=l.length):RemK w w' A f ds n C D:=by
 obtain⟨I,g,q,u,v,y,J,L,N⟩:=h;exact⟨I,g,q,u,v,y,J,L,N.src F (fun d O=>o d (List.mem_filter.1 O).1) F.size⟩
theorem zJj (kb o:Nat)(a:Option Addr)(D:Nat)(ds:List Dev)(ev:Option Addr)(en ec:Nat)(ix:Int)(f nm vl:ByteArray)(x y:Dev)(w:World)(v:KSt w kb o a D ds ev en ec ix)(b4:en<=5000)(hn:ds.length<=256)(hb:o<=w.heap.size)(a2:ds.find? (atP ds f)=some y)
  (a6:∀ W w' F,Fr No w W->Cop W w' W.heap.size (remL y.index ds) F->TreeWf F):
  Calls Tryz.prog 6 #[.pointer (some ⟨kb,0,none⟩),.agg (ocs 2 f x nm vl)] w fun e w'=>e=.returned (.tuple #[.int .i64 0,.int .i64 0])/\RemK w w' kb o ds y.index en ix/\Fr (fun b=>b=kb\/(Value.slice ev en ec).ownBlock=some b) w w':=by
 obtain⟨W0,z⟩:∃ W0,W0=w.alloc (.cells (ocs 2 f x nm vl) 38):=⟨_,rfl⟩
 have x0:Fr No w W0:=by rw[z];exact(Fr.refl _ _).alloc _
 have b0:W0.heap[w.heap.size]?=some (.cells (ocs 2 f x nm vl) 38):=by rw[z];exact zD _ _
 have c4:=zC v.blk;have I:=zh a2;have HK:=zh v;have b5:=zh a6;have b6:look ds y.index=some y:=zAF v.tr.wf.1.nd (List.mem_of_find?_eq_some a2);clear a2 a6 v;have o0:=(OpB.of b0).c0;have c3:=zLz;unfold ocs at z ⊢
 go_enter Tryz.func6,Tryz.ntmps6
 go_upto_region 1 with(fail)
 rw[<-z];clear z
 go_upto_region 8 with(fail)
 clear o0;refine zQ No [(1,false),(2,false),(0,true),(3,false),(4,false),(5,false),(6,false),(7,false),(8,false)] (by kernel_rfl) (by kernel_rfl) (fun w1 a3=>?_);have b1:=a3.heap b0 id;have o0:∀ g:Gr No w1,g.W.cell? ⟨w.heap.size,0,none⟩=some (.int .i64 2):=fun g=>(OpB.of (g.fr.heap b1 id)).c0
 have x1:=x0.step a3 zi;clear b0 x0 a3;apply zS rfl rfl rfl;intro K v;go_big_quiet_op;go_big_quiet_on;apply zS rfl rfl rfl;intro K v;go_big_quiet_op;go_big_quiet_on;clear o0;apply zk;exact rfl
 go_wp2_with fail
 refine(zLz w1).mono ?_;rintro e J ⟨mb,rfl,hM,L⟩
 go_wp2_with fail
 refine zf L ?_;have a7:∀ W,(∃ g:Gr No J,W=g.W)->(Instr.lookup 71 (.map (some mb)) (.int .i64 2) true).run Tryz.prog W=.ok (.tuple #[.func (.func 50) #[] #[],.bool true]) W:=fun W hW=>by
  obtain⟨g,rfl⟩:=hW;exact(hM.fr g.fr id).remove
 apply zS rfl rfl rfl;intro K v;refine zCx _ _ 71 rfl (.map (some mb)) (.int .i64 2) _ rfl rfl a7 ?_
 go_frame
 go_big_quiet_on;clear a7 hM
 repeat (apply zS rfl rfl rfl;intro K v;go_big_quiet_op;go_big_quiet_on)
 refine zY ?_;have b2:=L.heap b1 id;have x2:=x1.step L zi;clear b1 x1 L
 go_upto_region 11 with(fail)
 have X:=zh (fun (W:World) (hf:Fr No w W)=>zD0 a D ds o f W (HK.out.tr.no hf) (by omega));have a8:=x2.heap HK.out.blk id
 go_cut [7,8] (fun v7 p8 wx=>∃ Bp aa ac,v7=.bool true/\p8=.pointer (some ⟨Bp,0,none⟩)/\Hid (wx.heap[Bp]?=some (.cells (Dev.vals { y with aa:=aa,ac:=ac }) 36)/\w.heap.size<Bp)/\Fr No J wx)
 case first=>
  refine zb (fun b=>J.heap.size<=b) (.q 0 (.q 1 (.q 2 (.q 3 (.q 4 (.q 5 (.m2 6 (.q 7 (.q 8 (.q 9 (.m1 10 (.m1 11 (.q 12 .fin)))))) 10 (.m1 6 (.q 7 (.q 8 (.q 9 (.m1 11 (.q 12 .fin))))))))))))) _ (by kernel_rfl) (by kernel_rfl) (fun Y u=>?_) zj;have s8:=u.size;have sb:=zC b2;have t0:∀ g:Gr (fun b=>J.heap.size<=b) Y,g.W.cell? ⟨kb,0,none⟩=some (.slice a ds.length D):=fun g=>zB (g.fr.heap (u.heap a8 id) (fun h=>by omega)) 0
  have t1:∀ g:Gr (fun b=>J.heap.size<=b) Y,g.W.cell? ⟨w.heap.size,1,none⟩=some (.string f):=fun g=>(OpB.of (g.fr.heap (u.heap b2 id) (fun h=>by omega))).c1
  have x8:=zh (x2.step u zi);have H8:=zh u;clear u
  repeat (apply zM rfl rfl rfl;intro K v;go_big_quiet_op;go_big_quiet_on)
  clear t0 t1;refine zv rfl rfl ?_ ?_
  focus
   go_wp2_with fail
   refine(X.out Y x8.out).mono ?_;rintro e w9 ⟨hF,N⟩;obtain⟨aa,ac,rfl⟩:∃ aa ac,e=.returned (.tuple #[.agg (Dev.vals { y with aa:=aa,ac:=ac }),.bool true]):=by
    rcases hF with⟨A,_⟩ | ⟨d',aa,ac,l',A,rfl,_⟩
    ·rw[I.out]at A;cases A
    ·rw[I.out]at A;cases A;exact⟨aa,ac,rfl⟩
   clear hF;unfold Dev.vals
   go_wp2_with fail
   refine zm N ?_
   repeat (apply zM rfl rfl rfl;intro K v;go_big_quiet_op;go_big_quiet_on)
   apply zH;exact rfl;obtain⟨WA,O⟩:∃ WA,WA=w9.alloc (.cells #[.int .i64 0,.int .i64 0,.string ⟨#[]⟩,.string ⟨#[]⟩,.string ⟨#[]⟩,.string ⟨#[]⟩,.string ⟨#[]⟩,.int .i64 0,.int .i64 0,.slice none 0 0] 36):=⟨_,rfl⟩
   have fA:Fr No w9 WA:=by rw[O];exact(Fr.refl _ _).alloc _
   have qA:WA.heap[w9.heap.size]?=some (.cells #[.int .i64 0,.int .i64 0,.string ⟨#[]⟩,.string ⟨#[]⟩,.string ⟨#[]⟩,.string ⟨#[]⟩,.string ⟨#[]⟩,.int .i64 0,.int .i64 0,.slice none 0 0] 36):=by rw[O];exact zD _ _
   go_wp2_with fail
   refine zp ?_;rw[<-O];clear O;have Z:Hid (Fr No J WA):=(H8.out.step N zi).step fA zi;have R:Hid (J.heap.size<=w9.heap.size):=by have:=N.size;unfold Hid;omega
   clear fA N;generalize w9.heap.size=Bt at *
  rotate_left 1
  focus
   obtain⟨W9,U⟩:∃ W9,W9=Y.alloc (.cells #[.int .i64 0,.int .i64 0,.string ⟨#[]⟩,.string ⟨#[]⟩,.string ⟨#[]⟩,.string ⟨#[]⟩,.string ⟨#[]⟩,.int .i64 0,.int .i64 0,.slice none 0 0] 36):=⟨_,rfl⟩
   have f9:Fr No Y W9:=by rw[U];exact(Fr.refl _ _).alloc _
   have q9:W9.heap[Y.heap.size]?=some (.cells #[.int .i64 0,.int .i64 0,.string ⟨#[]⟩,.string ⟨#[]⟩,.string ⟨#[]⟩,.string ⟨#[]⟩,.string ⟨#[]⟩,.int .i64 0,.int .i64 0,.slice none 0 0] 36):=by rw[U];exact zD _ _
   go_wp2_with fail
   refine zp ?_;rw[<-U];clear U;apply zH;exact rfl
   go_wp2_with fail
   refine(X.out W9 (x8.out.step f9 zi)).mono ?_;rintro e WA ⟨hF,V⟩;obtain⟨aa,ac,rfl⟩:∃ aa ac,e=.returned (.tuple #[.agg (Dev.vals { y with aa:=aa,ac:=ac }),.bool true]):=by
    rcases hF with⟨A,_⟩ | ⟨d',aa,ac,l',A,rfl,_⟩
    ·rw[I.out]at A;cases A
    ·rw[I.out]at A;cases A;exact⟨aa,ac,rfl⟩
   have qA:=V.heap q9 id;have Z:Hid (Fr No J WA):=(H8.out.step f9 zi).step V zi;have R:Hid (J.heap.size<=Y.heap.size):=s8;clear hF q9;unfold Dev.vals
   go_wp2_with fail
   refine zm V ?_
   repeat (apply zM rfl rfl rfl;intro K v;go_big_quiet_op;go_big_quiet_on)
   clear f9 V;generalize Y.heap.size=Bt at *
  all_goals (
   apply zH;exact rfl;obtain⟨z0,z1,z2,z3,z4,z5,z6,z7,z8,z9⟩:=DevB.of (d:=⟨0,0,⟨#[]⟩,⟨#[]⟩,⟨#[]⟩,⟨#[]⟩,⟨#[]⟩,0,0,none,0,0⟩) qA;obtain⟨y0,y1,y2,y3,y4,y5,y6,y7,y8,y9⟩:=DevF.of qA;have a4:=zh (zBF qA rfl { y with aa:=aa,ac:=ac });clear qA
   go_wp2_with fail
   refine OnlyN.mk ⟨a4.out.2.mono (fun b _ h=>by have:=R.out;unfold Is at h;omega),?_⟩
   repeat (apply zM rfl rfl rfl;intro K v;go_big_quiet_op;go_big_quiet_on)
   refine zX ?_
   go_wp2_with fail
   go_meet
   exact⟨Bt,aa,ac,rfl,rfl,⟨a4.out.1,by have:=R.out;have:=x2.size;omega⟩,Z.out.step a4.out.2 (fun b hb h=>by have:=R.out;unfold Is at h;omega)⟩
   )
 case rest=>
  obtain⟨Bp,aa,ac,rfl,rfl,hB,a5⟩:=hcut;have x3:Fr No w wc:=x2.step a5 zi;obtain⟨o0,o1,o2,o3,o4,o5,o6,o7,o8,o9,b7,b8,b9,c2⟩:=OpB.of (a5.heap b2 id);obtain⟨z0,z1,z2,z3,z4,z5,z6,z7,z8,z9⟩:=DevB.of hB.out.1;have C:=zJi kb o a D ds ev en ec ix 2 f nm vl x { y with aa:=aa,ac:=ac } y wc (HK.out.no x3) b4 hn (by have:=x3.size;omega) b6 (fun w' F h=>b5.out wc w' F x3 h);have H3:=zh x3;have a9:Hid (∀ d∈ds,∃ l,Atts w d.aa d.ac l/\d.an=l.length):=fun d hd=>by
   obtain⟨l,g1,g2,_⟩:=(HK.out.tr.el d hd).att;exact⟨l,g1,g2⟩
  clear b2 x2 a5 a8 x3;unfold Dev.vals ocs at C
  go_wp2_with fail
  refine C.mono ?_;rintro e w4 ⟨rfl,hR,b3⟩;have HR:=zh (And.intro (hR.src H3.out a9.out) ((H3.out.mono zn).step b3 zi));clear C hR b3 o0 o1 o2 o3 o4 o5 o6 o7 o8 o9 b7 b8 b9 c2 z0 z1 z2 z3 z4 z5 z6 z7 z8 z9
  go_wp2_with fail
  go_ret2
  exact⟨rfl,HR.out.1,HR.out.2⟩
def strip (d:Dev):Dev:={ d with aa:=none,an:=0,ac:=0 }
section
variable {ds:List Dev}{n:Int}
theorem zBA : look (ds.map strip) n=(look ds n).map strip:=by
 unfold look;rw[List.find?_map];rfl
theorem zDt : ∀ (k:Nat) (n:Int),chainK (ds.map strip) k n=(chainK ds k n).map strip
 | 0,_=>rfl
 | k+1,n=>by
  unfold chainK;rw[zBA];cases look ds n with
  | none=>rfl
  | some d=>show strip d::chainK (ds.map strip) k d.parent=_;rw[zDt k d.parent];rfl
theorem zIn : chain (ds.map strip) n=(chain ds n).map strip:=by unfold chain;rw[List.length_map,zDt]
theorem zHE : origin (ds.map strip) n=origin ds n:=by unfold origin;rw[zIn,List.map_map];rfl
theorem zFY : plc (ds.map strip) n=plc ds n:=by
 unfold plc;rw[zBA,zHE];cases look ds n<;>rfl
theorem zHD : partOf (ds.map strip) n=partOf ds n:=by
 unfold partOf;rw[zBA];cases look ds n with
 | none=>rfl
 | some d=>
  show (match look (ds.map strip) d.parent with | none=>none | some p=>partB p (strip d))=(match look ds d.parent with | none=>none | some p=>partB p d)
  rw[zBA];cases look ds d.parent<;>rfl
theorem zF1 : virB (ds.map strip) n=virB ds n:=by
 unfold virB;rw[zBA,zHD];cases look ds n<;>rfl
theorem zD4 : ∀ (ds:List Dev) (R:Int->Bool),subL n (ds.map strip) R=(subL n ds R).map strip
 | [],_=>rfl
 | d::t,R=>by
  rw[List.map_cons];unfold subL;rw[zD4 t,zD4 t];show (if (d.index==n||R d.parent)=true then _ else _)=_
  split<;>rfl
theorem zLE (l:List Dev):ixs (l.map strip)=ixs l:=by
 funext i
 unfold ixs;rw[List.any_map];rfl
theorem zGC : remL n (ds.map strip)=(remL n ds).map strip:=by
 unfold remL;rw[zD4,zLE,List.filter_map];rfl
theorem zIy (s:ByteArray):(ds.map strip).find? (atP (ds.map strip) s)=(ds.find? (atP ds s)).map strip:=by
 rw[List.find?_map]
 congr 1
 congr 1
 funext d
 unfold atP;show ((plc (ds.map strip) d.index).toList==s.toList)=_
 rw[zFY]
end
theorem zJI {d f:Dev}(h:f={ d with aa:=f.aa,ac:=f.ac }):strip f=strip d:=by rw[h];rfl
theorem Cop.strip {w w':World}{g:Nat}{ds f:List Dev}(h:Cop w w' g ds f):f.map strip=ds.map strip:=by
 apply List.ext_getElem?;intro i;rw[List.getElem?_map,List.getElem?_map];by_cases q:i<ds.length
 ·have o:i<f.length:=by have:=h.len;omega
  rw[List.getElem?_eq_getElem q,List.getElem?_eq_getElem o];show some _=some _
  rw[zJI (h.el i _ _ (List.getElem?_eq_getElem q) (List.getElem?_eq_getElem o)).eq]
 ·have u:=h.len;rw[List.getElem?_eq_none (by omega),List.getElem?_eq_none (by omega)]
theorem TreeOk.map {ds:List Dev}:TreeOk (ds.map strip)↔TreeOk ds:=by
 have e:(ds.map strip).map Dev.index=ds.map Dev.index:=by rw[List.map_map];rfl
 constructor
 ·intro h;refine⟨e▸h.nd,fun d f=>h.ix (strip d) (List.mem_map_of_mem f),fun k d f=>?_,fun d f=>h.nm (strip d) (List.mem_map_of_mem f)⟩;rcases h.pa k (strip d) (by rw[List.getElem?_map,f];rfl)with h1 | ⟨j,x,h1,h2,h3⟩
  ·exact .inl h1
  ·rw[List.getElem?_map]at h2;cases hx:ds[j]? with
   | none=>rw[hx]at h2;cases h2
   | some y=>rw[hx]at h2;cases h2;exact .inr ⟨j,y,h1,hx,h3⟩
 ·intro h;refine⟨e.symm▸h.nd,fun d f=>?_,fun k d f=>?_,fun d f=>?_⟩
  ·obtain⟨y,g,rfl⟩:=List.mem_map.1 f;exact h.ix y g
  ·rw[List.getElem?_map]at f;cases hx:ds[k]? with
   | none=>rw[hx]at f;cases f
   | some y=>
    rw[hx]at f;cases f;rcases h.pa k y hx with h1 | ⟨j,z,h1,h2,h3⟩
    ·exact .inl h1
    ·exact .inr ⟨j,strip z,h1,by rw[List.getElem?_map,h2];rfl,h3⟩
  ·obtain⟨y,g,rfl⟩:=List.mem_map.1 f;exact h.nm y g
structure FlatW (ds:List Dev):Prop where
 ok:TreeWf ds
 pa:∀ d∈ds,d.parent=0
theorem FlatW.origin {ds:List Dev}(f:TreeOk ds)(h:∀ d∈ds,d.parent=0){d:Dev}(g:d∈ds):origin ds d.index=[d.orig]:=by
 rw[f.origin_cons (f.lk g),h d g,TreeOk.origin_none f.zero];rfl
theorem FlatW.plc {ds:List Dev}(h:FlatW ds){d:Dev}(f:d∈ds):plc ds d.index=pathOf [d.orig]:=by
 unfold Go.Proofs.YtinfjnndbfahhaaGreatDoor.plc;rw[h.ok.ok.lk f,FlatW.origin h.ok.ok h.pa f];rfl
theorem FlatW.plc0 {ds:List Dev}(h:FlatW ds):Go.Proofs.YtinfjnndbfahhaaGreatDoor.plc ds 0=⟨#[]⟩:=by
 unfold Go.Proofs.YtinfjnndbfahhaaGreatDoor.plc;rw[h.ok.ok.zero];rfl
theorem FlatW.sub {ds l:List Dev}(h:FlatW ds)(y:l.Sublist ds):FlatW l:=by
 have g:∀ d∈l,d∈ds:=fun d f=>y.subset f
 have o:∀ d∈l,d.parent=0:=fun d f=>h.pa d (g d f)
 have u:TreeOk l:=⟨h.ok.ok.nd.sublist (y.map _),fun d f=>h.ok.ok.ix d (g d f),fun k d f=>.inl (o d (List.mem_of_getElem? f)),fun d f=>h.ok.ok.nm d (g d f)⟩
 refine⟨⟨u,fun d f e v q=>?_,fun d f=>?_⟩,o⟩
 ·rw[FlatW.origin u o f,FlatW.origin u o v]at q;exact h.ok.uo d (g d f) e (g e v) (by rw[FlatW.origin h.ok.ok h.pa (g d f),FlatW.origin h.ok.ok h.pa (g e v)];exact q)
 ·rw[FlatW.origin u o f];simp
theorem FlatW.map {ds f:List Dev}(h:FlatW ds)(e:f.map strip=ds.map strip):FlatW f:=by
 have o:TreeOk f:=TreeOk.map.1 (e▸TreeOk.map.2 h.ok.ok);have D:∀ q∈f,∃ d∈ds,strip d=strip q:=fun q g=>by
  have:strip q∈f.map strip:=List.mem_map_of_mem g;rw[e]at this;obtain⟨d,u,v⟩:=List.mem_map.1 this;exact⟨d,u,v⟩
 have C:∀ d∈f,d.parent=0:=fun q g=>by
  obtain⟨d,u,v⟩:=D q g;have:(strip d).parent=(strip q).parent:=by rw[v]
  exact this.symm.trans (h.pa d u)
 refine⟨⟨o,fun d g x F A=>?_,fun d g=>?_⟩,C⟩
 ·rw[FlatW.origin o C g,FlatW.origin o C F]at A;obtain⟨y,u,v⟩:=D d g;obtain⟨z,I,J⟩:=D x F;have N:(strip y).orig=(strip d).orig:=by rw[v]
  have O:(strip z).orig=(strip x).orig:=by rw[J]
  have R:(strip y).index=(strip d).index:=by rw[v]
  have U:(strip z).index=(strip x).index:=by rw[J]
  have:y=z:=h.ok.uo y u z I (by rw[FlatW.origin h.ok.ok h.pa u,FlatW.origin h.ok.ok h.pa I];show [(strip y).orig]=[(strip z).orig];rw[N,O];exact A);subst this;have V:d.index=x.index:=R.symm.trans U;have L:=o.lk g;rw[V,o.lk F]at L;exact(Option.some.inj L).symm
 ·rw[FlatW.origin o C g];simp
theorem zEo {n:Int}:∀ (ds:List Dev) (R:Int->Bool),R 0=false->(∀ d∈ds,d.parent=0/\d.index≠0)->subL n ds R=ds.filter fun d=>d.index==n
 | [],_,_,_=>rfl
 | d::t,R,hR,h=>by
  obtain⟨g,o⟩:=h d (by simp);have f:=fun R hR=>zEo (n:=n) t R hR (fun d q=>h d (by simp[q]))
  rw[List.filter_cons];unfold subL;rw[g,hR,Bool.or_false];split
  ·rw[f];unfold upd;rw[if_neg (Ne.symm o)];exact hR
  ·exact f R hR
theorem FlatW.rem {ds:List Dev}(h:FlatW ds)(n:Int):remL n ds=ds.filter fun d=>d.index != n:=by
 unfold remL;rw[zEo ds _ rfl (fun d f=>⟨h.pa d f,by have:=(h.ok.ok.ix d f).1;omega⟩)];apply List.filter_congr;intro d f;have e:ixs (ds.filter fun x=>x.index==n) d.index=(d.index==n):=by
  unfold ixs;rw[List.any_filter];rcases hb:(d.index==n)with _ | _
  ·rw[List.any_eq_false];intro x g;by_cases e:x.index=d.index
   ·rw[e,hb];simp
   ·simp[e]
  ·exact List.any_eq_true.2 ⟨d,f,by simp[hb]⟩
 rw[e];rfl
theorem FlatW.rem_last {l:List Dev}{d:Dev}(h:FlatW (l++[d])):remL d.index (l++[d])=l:=by
 rw[h.rem,List.filter_append];have g:([d].filter fun x=>x.index != d.index)=[]:=by simp
 have f:=h.ok.ok.nd;rw[List.map_append,List.nodup_append]at f;have o:(l.filter fun x=>x.index != d.index)=l:=by
  rw[List.filter_eq_self];intro x q;have:=f.2.2 x.index (List.mem_map_of_mem q) d.index (by simp)
  simpa using this
 rw[g,o,List.append_nil]
theorem zEf {ds:List Dev}(h:FlatW ds){d:Dev}(f:d∈ds):virB ds d.index=preB d.orig:=by
 have g:=h.ok.ok.lk f;unfold virB partOf;rw[g];show ((match look ds d.parent with | none=>none | some p=>partB p d).isSome||(d.parent==0&&preB d.orig))=_
 rw[h.pa d f,h.ok.ok.zero];rfl
theorem FlatW.step {cs L:List Dev}{d:Dev}(f:FlatW (L++[d]))(g:cs.map strip=(L++[d]).map strip):
  FlatW cs/\(∃ o,look cs d.index=some o)/\(remL d.index cs).map strip=L.map strip/\Go.Proofs.YtinfjnndbfahhaaGreatDoor.plc cs d.index=pathOf [d.orig]/\virB cs d.index=preB d.orig:=by
 have q:d∈L++[d]:=by simp
 refine⟨f.map g,?_,?_,?_,?_⟩
 ·have h:=zBA (ds:=cs) (n:=d.index);rw[g,zBA,f.ok.ok.lk q]at h;cases hl:look cs d.index with
  | none=>rw[hl]at h;cases h
  | some o=>exact⟨o,rfl⟩
 ·rw[<-zGC,g,zGC,f.rem_last]
 ·rw[<-zFY,g,zFY];exact f.plc q
 ·rw[<-zF1,g,zF1];exact zEf f q
end Go.Proofs.YtinfjnndbfahhaaGreatDoor
