import Derived.Test.YtjoipgjdpnjjiaaGreatDoorQ11
namespace Go.Proofs.YtjoipgjdpnjjiaaGreatDoor
open Go.RowKit Go.Maps Go.Shelf
set_option linter.unusedVariables false
set_option maxRecDepth 100000
set_option maxHeartbeats 8000000
open And renaming intro->ar
open Dev renaming vals->be,index->bm
open Fr renaming refl->au,setAt->bg
open Go renaming undef->K,World->aq,Addr->aw,maxLen->ay,Calls->az,Value->bc,wpList_append_own_at->cn
open Go.Instr renaming lookup->bu
open Go.Lit renaming int->bo
open Go.Proofs renaming intOf->bd
open Go.Proofs.Tryz renaming prog->am,underlying201->bj,underlying120->ca,underlying3->cl,underlying87->cm
open Go.RowKit renaming Hid->H
open Go.Value renaming slice->ai
open Go.World renaming size_alloc->cd
open IntKind renaming i64->R
open Obj renaming cells->ae
open OnlyN renaming mk->ba
open Value renaming slice->ab,agg->af,pointer->aj,int->ap,string->ax
open _root_ renaming Nat->C,List->B,Int->a0,ByteArray->ag,Option->av,congrArg->bp,if_neg->bq,if_pos->br
open _root_.Bool renaming false->f,true->ah
open _root_.ByteArray renaming empty->ak
open _root_.List renaming getElem?_map->bh,mem_of_getElem?->bi,length_cons->bn,length_append->bs,length->bv,length_map->bw,length_nil->bx,foldl_append->cb,take_add_one->cc,foldl_cons->ce,getElem?_of_mem->cf,getElem?_set->cg,length_take->ch,mem_or_eq_of_mem_set->ci,take_length->cj
open _root_.List.Pairwise renaming map->cp
open _root_.Nat renaming le_trans->ck
open _root_.Option renaming some->E,none->G
variable{S V:C->Prop}{w w' F z W:aq}{ds cs:B Dev}{o k v O U u I J n b:C}{ct:a0->ag}{x d:Dev}{a N:av aw}{Q:Exit->Act->aq->Prop}{M:B Vir}{pre:B (a0×Dev)}
theorem zCn (c:ag):getP (cAtt c) zM=c:=by
 unfold cAtt;cases hc:c.toList.isEmpty with
 | true=>
  rw[br rfl];rw[ByteArray.toList_eq]at hc;have o:c.data.toList=[]:=by simpa using hc
  exact(ByteArray.ext (Array.toList_inj.1 o):c=()).symm
 | false=>
  have h:isKey zM (zM,c)=true:=by simp[isKey]
  rw[bq (by simp)];unfold getP;rw[List.find?_cons,h];rfl
def CtO (w:aq)(ds:B Dev)(ct:a0->ag):Prop:=AttOf w ds λi=>cAtt (ct i)
def updC (ct:a0->ag)(n:a0)(v:ag):a0->ag:=λi=>if i=n then v else ct i
theorem AttOf.fr {o:a0->B (ag×ag)}(h:AttOf w ds o)(y:Fr S w w')(z:∀ d∈ds,∀ u,d.aa=E u->¬ S u.block):AttOf w' ds o:=λd v=>⟨(h d v).1.fr y (λu e _=>z d v u e),(h d v).2⟩
theorem CtO.set (h:CtO w ds ct)(Z:TreeOk ds){o:Dev}(N:ds[k]?=E o)(hx:x.index=o.index){v:ag}(hA:Atts w x.aa x.ac (cAtt v))(A:x.an=(cAtt v).length):CtO w (ds.set k x) (updC ct o.index v):=by
 have F:=(List.getElem?_eq_some_iff.1 N).1;intro y hy;obtain⟨i,u⟩:=cf hy;rw[cg]at u;by_cases e:k=i
 .rw[br e]at u;split at u
  .cases u;have z:(λi=>cAtt (updC ct o.index v i)) x.index=cAtt v:=(by dsimp only;unfold updC;rw[br hx]);rw[z];exact⟨hA,A⟩
  .exact absurd F (by assumption)
 .rw[bq e]at u;have I:y.index≠o.index:=λO=>by
   have h1:(ds.map bm)[i]?=E y.index:=(by rw[bh,u];rfl);have h2:(ds.map bm)[k]?=E o.index:=(by rw[bh,N];rfl);obtain⟨U,z⟩:=List.getElem?_eq_some_iff.1 h1;obtain⟨V,X⟩:=List.getElem?_eq_some_iff.1 h2;have Y:=List.pairwise_iff_getElem.1 Z.nd;rcases Nat.lt_or_gt_of_ne e with J|J
   .exact Y k i V U J (by rw[z,X,O])
   .exact Y i k U V J (by rw[z,X,O])
  have z:(λi=>cAtt (updC ct o.index v i)) y.index=cAtt (ct y.index):=by dsimp only;unfold updC;rw[bq I]
  rw[z];exact h y (bi u)
theorem KSt.emit {F:C}{y:av aw}{u z:C}{I:a0}{V:B bc}(h:KSt w F o a v ds N O U I)(Y:Fr (λb=>b=F\/(ai N O U).ownBlock=E b) w w')
  (Z:w'.heap[F]?=E (ae (kcs a (ds:C) v y u z I) 62)) (ho:w'.ownsRow o 104 5 (ab y u z) u V):KSt w' F o a v ds y u z I:=by
 obtain⟨a2,hx⟩:=h.own;obtain⟨g1,g2,g3⟩:=Tr.typ h.tr h.ta h.te Y (λb cs T A J=>by
  rcases A with rfl|A
  .rw[h.blk]at J;cases J;exact⟨by decide,by decide⟩
  .by_cases X:T=104;·subst X;exact⟨by decide,by decide⟩
   .exact absurd A (zJ hx J X))
 exact⟨Z,g1,g2,g3,⟨V,ho⟩,h.nm⟩
theorem KSt.tmk {w5:aq}{A:B Dev}{V:a0}{X:av aw}{Y:C}{u:B Dev}(h:KSt w I o a J ds N O U V)(hf:Fr (Is I) w F)(hb:F.heap[I]?=E (ae (kcs X (u:C) Y N O U V) 62))(v:TMk w5 F A X Y u)(h5:o<=(w5:C))
  (Z:∀ d∈A,Sized d/\d.drv=()/\d.name.size<=1000) (a2:TreeWf u):KSt F I o X Y u N O U V:=by
 obtain⟨xs,hx⟩:=h.own;refine⟨hb,v.cop.tr (λd z=>⟨(Z d z).1,(Z d z).2.1⟩) v.dv a2 v.fresh h5,v.bt,λd z=>?_,⟨xs,zG hx hf (λb a3 e=>?_)⟩,v.cop.names λd z=>(Z d z).2.2⟩
 .obtain⟨y,_,hy⟩:=v.cop.mem z;exact hy.typ
 .unfold Is at e;subst e;exact zJ hx h.blk (by decide) a3
theorem TreeWf.ofStrip {o:B Dev}(h:TreeWf ds)(e:o.map strip=ds.map strip):TreeWf o:=by
 have u:TreeOk o:=TreeOk.map.1 (e▸TreeOk.map.2 h.ok);have O:∀ n,origin o n=origin ds n:=λn=>by rw[<-zBL,e,zBL]
 have U:∀ d∈o,∃ y∈ds,y.index=d.index:=λd v=>by
  have F:strip d∈ds.map strip:=e▸List.mem_map_of_mem v;obtain⟨y,A,V⟩:=List.mem_map.1 F;exact⟨y,A,by have N:=bp bm V;exact N⟩
 refine⟨u,λd v Y I J=>?_,λd v=>?_⟩
 .obtain⟨y,F,A⟩:=U d v;obtain⟨z,V,N⟩:=U Y I;rw[O,O,<-A,<-N]at J;have Z:=h.uo y F z V J;have X:=zo u.nd v;have h7:=zo u.nd I;rw[<-A,Z,N,h7]at X;exact(Option.some.inj X).symm
 .obtain⟨y,F,A⟩:=U d v;rw[O,<-A];exact h.dp y F
theorem zCi {o:Dev}(h:ds[k]?=E o)(e:strip x=strip o):(ds.set k x).map strip=ds.map strip:=by
 rw[List.map_set,e];apply List.ext_getElem?;intro i;rw[cg];split
 .rename_i u;subst u;split;·rw[bh,h];rfl
  .rw[bh,h];rename_i v;exact absurd (by simpa using (List.getElem?_eq_some_iff.1 h).1) v
 .rfl
theorem zQj (kb u:C)(a:av aw)(d6:C)(ds:B Dev)(ev:av aw)(en ec:C)(ix kk:a0)(ct:a0->ag)(k:C)(d0 I:ag)(x0 v d:Dev)(m:a0)(w:aq)(hK:KSt w kb u a d6 ds ev en ec ix)(hC:CtO w ds ct)(h7:en<=60000000)(hn:(ds:C)<=256)(hb:u<=(w:C))(hk:ds[k]?=E v)(e5:fidx (λy=>y.index==v.index) ds=(k:a0))
  (hd:d={ v with aa:=d.aa,ac:=d.ac }) (e6:Atts w d.aa d.ac (cAtt (ct v.index))) (e7:v.kind=2) (d1:Sound v (cAtt I)) (a7:ds.any (clP v)=f) (hv:I.size<=100000) (hm:w ⟨0,0,G⟩=E (.int R m)) (h0:0<(w:C)) (h8:0<kb):
  az am 55 #[aj (E ⟨kb,0,G⟩),af (ocs kk d0 x0 zM I),af d.vals] w λe w'=>e=.returned (.int R 0)/\
   (∃ a' c' z d7 e8 d8,KSt w' kb u a' c' z d7 e8 d8 ix/\z.map strip=ds.map strip/\CtO w' z (updC ct v.index I)/\e8<=en+1)/\KFr kb (.slice ev en ec) w w':=by
 obtain⟨W0,d9,e9,b4,b5⟩:=zw w (ae (ocs kk d0 x0 zM I) 43) (ae d.vals 41);have h9:=zC hK.blk;have s0:=zC b5;have J:=bi hk;have d2:d.an=(cAtt (ct v.index)).length:=by rw[hd];exact(hC v J).2
 have K1:=zh (zAT zM W0 (by decide));have a8:isName zM=true:=by kernel_rfl
 have HK:=zh hK;have HC:=zh hC;have HA:=zg2 e6 d2;have O:=zg6 hk e5 hd e7 d1 a7;have HM:=zh hm;have HV:=zh hv;obtain⟨o0,o1,o2,o3,o4,o5,o6,o7,o8,o9,U,V,X,Y⟩:=OpB.of b4;clear hK hC e6 d2 hk e5 e7 d1 a7 hm hv J hd;unfold ocs be at d9 ⊢;go_enter Tryz.func55,Tryz.ntmps55;go_upto_region 1 with(fail)
 rw[<-d9];clear d9;rw[a8]at K1;go_wp2_with fail;apply K1.mono;rintro e w1 ⟨rfl,a9⟩;have x1:Fr No w w1:=e9.step a9 zi;have p4:=a9.heap b4 id;have p5:=a9.heap b5 id;clear o0 o1 o2 o3 o4 o5 o6 o7 o8 o9 U V X Y b4 b5 a9 e9;obtain⟨o0,o1,o2,o3,o4,o5,o6,o7,o8,o9,U,V,X,Y⟩:=OpB.of p4;have c9:w1 ⟨(w:C)+1,9,G⟩=E (.slice d.aa d.an d.ac):=zB p5 9;have a2:=zPR d.aa d.ac (cAtt (ct v.index)) zM w1 (HA.1.no x1 (λ_=>id));rw[zCn]at a2;have A:=zPO d.aa d.ac (ct v.index) I w1;rw[HA.2]at c9;obtain⟨N,hN⟩:=ε ((cAtt (ct v.index)).length)
 rw[<-hN]at c9 a2 A;have HN:=zh hN;clear hN A;go_wp2_with fail;apply a2.mono;rintro e w2 ⟨⟨bf,rfl⟩,b0⟩;have x2:Fr No w w2:=x1.step b0 zi;have r4:=b0.heap p4 id;have r5:=b0.heap p5 id;clear o0 o1 o2 o3 o4 o5 o6 o7 o8 o9 U V X Y p4 p5 b0 c9 a2;obtain⟨o0,o1,o2,o3,o4,o5,o6,o7,o8,o9,U,V,X,Y⟩:=OpB.of r4;have c9:w2 ⟨(w:C)+1,9,G⟩=E (.slice d.aa d.an d.ac):=zB r5 9;rw[HA.2,<-HN]at c9;have A:=zPO d.aa d.ac (ct v.index) I w2 (HA.1.no x2 (λ_=>id)) (by have:=HV.out;unfold ay;omega);rw[<-HN]at A;go_wp2_with fail;apply A.mono;rintro e w3 ⟨⟨a3,c3,rfl,g0,g9,g1⟩,b1⟩;have x3:Fr No w w3:=x2.step b1 zi;have u4:=b1.heap r4 id;have u5:=b1.heap r5 id;have s2:=x2.size;have i0:=zC r5;obtain⟨x,hx⟩:∃ x:Dev,x={ d with aa:=a3,an:=(cAtt I).length,ac:=c3 }:=⟨_,rfl⟩
 clear o0 o1 o2 o3 o4 o5 o6 o7 o8 o9 U V X Y r4 r5 b1 c9 A;have y9:=zD u5 9;have z9:w3 ⟨(w:C)+1,9,G⟩=E (.slice d.aa d.an d.ac):=zB u5 9;obtain⟨W4,b2⟩:=ε (w3.setCell ⟨(w:C)+1,9,G⟩ (.slice a3 (cAtt I).length c3))
 have f4:Fr (Is ((w:C)+1)) w3 W4:=by rw[b2];exact bg (au _ _) _
 have v5:W4.heap[(w:C)+1]?=E (ae x.vals 41):=by rw[b2,hx];exact zE u5 9 _
 have v4:=f4.heap u4 (λh=>by omega);have x4:Fr No w W4:=x3.step f4 (λb hb h=>by omega);have g2:=g0.fr f4 (λad e _ h=>by have:=g1 ad e;omega);have HX:=zg3 hx g2 x4;have HU:=zg2 v4 v5;clear hx g2 g0 g9 u4 u5 f4;go_upto_region 5 with(fail)
 rw[<-b2];clear b2 y9 z9;have o:x={ v with aa:=a3,an:=(cAtt I).length,ac:=c3 }:=by rw[HX.1,O.2.2.1]
 have e0:strip x=strip v:=by rw[o];rfl
 have h1:=zh (zCi O.1 e0);have J:=bi O.1;have F:=HK.tr.el v J;have b3:CtO W4 (ds.set k x) (updC ct v.index I):=CtO.set (HC.out.no HX.2.2) HK.tr.wf.ok O.1 (by rw[o]) (by rw[o];exact HX.2.1) (by rw[o]);have e1:∀ y∈ds.set k x,Sized y/\y.drv=()/\y.name.size<=1000:=λy hy=>by
  rcases ci hy with h|rfl
  .exact⟨(HK.tr.el y h).sz,(HK.tr.el y h).drv,HK.nm y h⟩
  .rw[o];exact⟨⟨F.sz.name,F.sz.orig,F.sz.sub,F.sz.drv,F.sz.ali⟩,F.drv,HK.nm v J⟩
 have e2:=zM8 kb a (ds:C) d6 ev en ec ix (ds.set k x) x W4 (HX.2.2.heap HK.blk id) (λy hy=>⟨_,(b3 y hy).1,(b3 y hy).2⟩) (λW hf=>by
  have e3:=HX.2.2.step hf zi;have h2:Sound x (cAtt I):=by rw[o];exact⟨O.2.2.2.2.1.rng,O.2.2.2.2.1.named,O.2.2.2.2.1.same,O.2.2.2.2.1.num,O.2.2.2.2.1.attrs,O.2.2.2.2.1.link⟩
  have a7:ds.any (clP x)=false:=by rw[<-O.2.2.2.2.2,<-zDI,e0,zDI]
  exact(zIA a d6 u ds k v x (cAtt I) m W (HK.tr.no e3) hn O.1 (by rw[o];exact O.2.1) (by rw[o];exact⟨rfl,rfl,rfl⟩) (e1 x (List.mem_set (List.getElem?_eq_some_iff.1 O.1).1 x)).1 (by rw[o];exact HX.2.1.no hf (λ_=>id)) (zCv I) (by rw[o]) (by rw[o];exact O.2.2.2.1) (by rw[o];exact F.drv) h2 a7 (e3.cell HM id) (Nat.lt_of_lt_of_le h0 e3.size)).mono λe w' h=>⟨h.1.tmk,h.2⟩)
 have g3:=zg2 b3 e1;have e4:x.index=v.index:=by rw[o]
 have i3:=zh e4;have h3:(bo R x.index).wf=true:=by rw[e4];exact HK.tr.wf.ok.iwf J
 clear b3 e1 F J e0 e4 o;obtain⟨c0,c1,c2,h4,c4,c5,c6,c7,c8,c9⟩:=DevB.of HU.2;unfold be at e2;go_wp2_with fail;apply e2.mono;rintro e w6 ⟨rfl,⟨a',c',z,d3,b6⟩,a4⟩;have s4:=HX.2.2.size;have b7:=b6.cop.strip.trans h1;have Z:KSt w6 kb u a' c' z ev en ec ix:=(HK.out.no HX.2.2).tmk a4 d3 b6 (by omega) g3.2 (TreeWf.ofStrip HK.tr.wf b7);have i4:z.length<=256:=by have:=bp bv b7;rw[bw,bw]at this;omega
 have HR:=zg4 Z b7 (g3.1.cop b6.cop) ((x3.mono zn:Fr (Is kb) w w3));have v4:=a4.heap HU.1 (λh=>by omega);have v5:=a4.heap HU.2 (λh=>by omega);have FW:H (Fr (Is kb) w w6):=(HX.2.2.mono zn).step a4 zi;have s6:=FW.size;clear e2 d3 b6 a4 Z b7 c0 c1 c2 h4 c4 c5 c6 c7 c8 c9;obtain⟨o0,o1,o2,o3,o4,o5,o6,o7,o8,o9,U,V,X,Y⟩:=OpB.of v4;have c0:w6 ⟨(w:C)+1,0,G⟩=E (.int R x.index):=zB v5 0;clear v4 v5;rcases hne:((ct v.index).toList==I.toList)with _|_
 .have g4:=zHl kb a' c' u z ev en ec ix 3 x.index w6 HR.1.blk HR.1.tr (by omega) h3 HR.1.nm;go_wp2_with fail;apply g4.mono;rintro e w7 ⟨⟨sp,rfl⟩,a5⟩;obtain⟨W8,g5,f8,b8⟩:=zy w7 (ae #[.int R 0,.int R 3,.int R x.index,.string sp,.string ()] 104);have Z:=HR.1.no (a5.step f8 zi);obtain⟨xs,d4⟩:=Z.own;have s7:=a5.size;have s8:=f8.size;have g6:=zN2 kb (w7:C) u a' z.length c' ev en ec ix 3 x.index sp xs W8 Z.blk d4 (by omega) b8 (by omega) (λh=>by obtain⟨i5,h6⟩:=HR.1.own;have:=(zAH h6 h).2;omega);have H8:=zg3 Z (HR.2.2.1.no (a5.step f8 zi)) ((FW.step a5 zn).step f8 zn);clear g4 a5 f8 b8 Z d4 c0 o0 o1 o2 o3 o4 o5 o6 o7 o8 o9 U V X Y;go_wp2_with (fail)
  rw[<-g5];clear g5;apply g6.mono;rintro e w9 ⟨rfl,⟨d7,d8,i6,d5,a6⟩,b9,g7⟩;have g8:=H8.1.emit b9 d5 a6;have H9:=zh (ar g8 (ar (H8.2.1.fr b9 (λy hy ad e h=>by
   obtain⟨cs,hc⟩:=H8.1.te y hy ad e;obtain⟨i7,h5⟩:=H8.1.own;rcases h with h|h
   .rw[h,H8.1.blk]at hc;cases hc
   .exact zJ h5 hc (by decide) h)) (ar ((H8.2.2.mono (T:=λb=>b=kb\/(ai ev en ec).ownBlock=E b) (λb _ h=>.inl h)).step b9 (λb _ h=>h)) (λ(v':bc) (b:C) g hb=>(g7 v' b g hb).imp id (λh=>ck H8.2.2.size h)))))
  clear g6 d5 a6 b9 g7 g8;go_wp2;go_ret;exact⟨rfl,⟨a',c',z,d7,en+1,d8,H9.1,HR.2.1,H9.2.1,by omega⟩,H9.2.2⟩
 .have i8:True:=trivial;go_wp2;go_ret;exact⟨rfl,⟨a',c',z,ev,en,ec,HR.1,HR.2.1,HR.2.2.1,by omega⟩,FW.mono (λb _ h=>.inl h),λv' b g hb=>.inl (by rw[show w6 ⟨kb,3,G⟩=E (.slice ev en ec)from zB HR.1.blk 3]at g;cases g;exact hb)⟩
theorem zAo {w:aq}{u:Array Oper}{h:B Oper}{o:Oper}{a:Act}{Q:Exit->Act->aq->Prop}(A:o.guard=G)(m x:Operand)(t:TypeId)(y:o.op=Op.lookup t m x f)(F:Tryz.prog.underlying t=E (.map 3 4))
  (z:C) (g:a0->Bool) (N:C) (k:a0) (I:(bo R k).wf=ah) (J:a.eval m=.map (E z)) (v:BMap w z g N) (O:a.eval x=.int R k) (b:Bool) (U:g k=b)
  (V:wpList am u Q h (a.put o.dst (.bool b)) w):wpList am u Q (o::h) a w:=by
 obtain⟨D,n,_,X,Y⟩:=v;subst U;exact zBk w A m x t y 3 4 lawI F (by kernel_rfl) (zeroB w) z n D J X _ _ O (keyOf_int_mk cl I) _ (Y k) V
theorem zCM {w:aq}{y:Array Oper}{u:B Oper}{o:Oper}{a:Act}{Q:Exit->Act->aq->Prop}(J:o.guard=G)(m x v:Operand)(t:TypeId)(F:o.op=Op.mapUpdate t m x v)(O:Tryz.prog.underlying t=E (.map 3 4))
  (z:C) (g:a0->Bool) (N:C) (hN:N<ay) (k:a0) (U:(bo R k).wf=ah) (b:Bool) (V:a.eval m=.map (E z)) (A:BMap w z g N) (X:a.eval x=.int R k) (Y:a.eval v=.bool b)
  (Z:∀ w',BMap w' z (upd g k b) (N+1)->Fr (Is z) w w'->wpList am y Q u (a.put o.dst K) w'):wpList am y Q (o::u) a w:=by
 obtain⟨D,n,hn,I,hh⟩:=A;exact wpList_mapUpdate_own w J m x v t F 3 4 lawI O _ z n D V I (by omega) _ _ _ X Y (keyOf_int_mk cl U) (.lit (.bool b)) [] (plainElem_bool (by kernel_rfl) b) (λw' h h'=>Z w' (BMap.put hn I hh k b h) (Fr.of_grown_some h'))
def usedF (l:B Dev):a0->Bool:=λn=>l.any λd=>(d.num==n)&&(d.kind==2)
def maxI (l:B Dev):a0:=l.foldl (λm d=>max m d.index) 0
theorem zGq (l:B Dev)(d:Dev):maxI (l++[d])=max (maxI l) d.index:=by unfold maxI;rw[cb];rfl
theorem zJQ (l:B Dev)(d:Dev):upd (usedF l) d.num (usedF l d.num||(d.kind==2))=usedF (l++[d]):=by
 funext n
 unfold upd usedF;rw[List.any_append];by_cases h:n=d.num
 .subst h;rw[br rfl];simp
 .rw[bq h];have:(d.num==n)=false:=by simp;exact λe=>h e.symm
  simp[this]
theorem zBe {α:Type}[DecidableEq α]:∀ {l m:B α},l.Nodup->(∀ x∈l,x∈m)->(l:C)<=(m:C)
 | [],m,_,_=>Nat.zero_le _
 | x::t,m,o,h=>by
  rw[List.nodup_cons]at o;have v:=h x (by simp);have A:=zBe (l:=t) (m:=m.erase x) o.2 (λy z=>by
   have u:y≠x:=λe=>o.1 (e▸z)
   exact(List.mem_erase_of_ne u).2 (h y (by simp[z])))
  have F:=List.length_erase_of_mem v;have I:=List.length_pos_of_mem v;rw[bn];omega
theorem zJP (ds:B Dev)(k:C)(h:∀ i:C,i<=k->usedF ds (1048576+(i:a0))=ah):k<(ds:C):=by
 have y:=zBe (l:=(List.range (k+1)).map λi:C=>1048576+(i:a0)) (m:=ds.map λd=>d.num) (by
  refine cp _ (λa b (o:a≠b) (e:1048576+(a:a0)=1048576+(b:a0))=>o (by omega)) List.nodup_range) (λx z=>by
  obtain⟨i,A,rfl⟩:=List.mem_map.1 z;have u:=h i (by have:=List.mem_range.1 A;omega);unfold usedF at u;obtain⟨d,F,v⟩:=List.any_eq_true.1 u;rw[Bool.and_eq_true,beq_iff_eq]at v;exact List.mem_map.2 ⟨d,F,v.1⟩)
 simp at y;omega
theorem zPx (pb Y:C)(a:av aw)(U:C)(ds:B Dev)(v1:bc)(w:aq)(hl:Tr w Y a U ds)(hn:(ds:C)<=250)(a3:w.heap[pb]?=E (ae #[.slice a ds U,v1] 128))
  (y:∀ d∈ds,(bo R d.num).wf=ah):
  az am 108 #[aj (E ⟨pb,0,G⟩)] w λe w'=>(∃ k:C,k<=(ds:C)/\usedF ds (1048576+(k:a0))=f/\(∀ i:C,i<k->usedF ds (1048576+(i:a0))=ah)/\e=.returned (.tuple #[.int R (1048576+(k:a0)),.int R (maxI ds)]))/\Fr No w w':=by
 have d0:=hl.dv.lenmax;obtain⟨W0,a4,x0,-⟩:=zy w (.map #[] 0);have hM:BMap W0 (w:C) (usedF []) 0:=by rw[a4];exact zEb w
 have t0:W0 ⟨pb,0,G⟩=E (.slice a ds U):=zB (x0.heap a3 id) 0;have d2:=zC a3;have HT:=zg2 hl hn;have HW:=zh y;have HX:=zh x0;have b6:=@run_makeMap am;clear hl hn a3 y x0;go_enter Tryz.func108,Tryz.ntmps108;go_upto_region 2 with(fail)
 rw[<-a4];clear a4;go_wp2_with fail;clear t0 b6;go_loopw [5,16] (λu i wr=>∃ k,k<=(ds:C)/\u=.int R (maxI (ds.take k))/\i=.int R (k:a0)/\BMap wr (w:C) (usedF (ds.take k)) k/\Fr (Is (w:C)) W0 wr) (λ_ i _=>(ds:C)-(bd i).toNat);case atStart=>exact⟨0,by omega,rfl,rfl,hM,au _ _⟩
 case round=>
  obtain⟨k,hk,rfl,rfl,hB,hf⟩:=hrel;by_cases b7:k<(ds:C)
  .have a8:(k:a0)<(ds:C):=by omega
   have a9:Tr wr Y a U ds:=HT.1.no (HX.step hf (λb hb h=>by omega));obtain⟨bb,d3,d,rfl,hd,Z,c1,c2,c3,c4,c5,c6,c7,c8,c9⟩:=a9.dv.dev b7;have b0:=bi hd;have b1:H (ds.take (k+1)=ds.take k++[d]):=(by unfold H;rw[cc,hd];rfl);obtain⟨W1,a5,a6,d1⟩:=zy wr (ae d.vals 41);have A:=hB.fr a6 id;have d4:(w:C)<(wr:C):=hB.lt;have y:=HW.out d b0;have a7:=zh (hf.step a6 zn);have z:=DevB.of d1;unfold be at a5;obtain⟨u0,F⟩:=ε (usedF (ds.take k) d.num)
   have hU:H (upd (usedF (ds.take k)) d.num (u0||(d.kind==2))=usedF (ds.take (k+1))):=(by unfold H;rw[F,b1,zJQ]);have I:H (maxI (ds.take (k+1))=max (maxI (ds.take k)) d.index):=(by unfold H;rw[b1,zGq]);clear hd hB hf a6 d1 a9;go_upto_region 5 with(fail)
   rw[<-a5];clear a5 Z c1 c2 c3 c4 c5 c6 c7 c8 c9;obtain⟨Z,c1,c2,c3,c4,c5,c6,c7,c8,c9⟩:=z;have d5:k<=250:=(by have:=HT.2;omega);have b8:=I;obtain⟨mx,V⟩:=ε (max (maxI (ds.take k)) d.index)
   rw[<-V]at I;clear b8;rcases hu1:u0 with _|_
   .have X:=F.symm.trans hu1;rcases hkd:(d.kind==2)with _|_
    .skip;have J:H (upd (usedF (ds.take k)) d.num f=usedF (ds.take (k+1))):=(by unfold H;rw[<-hU,hu1,hkd];rfl);clear hU F hu1;go_wp2_with (first
      | (at_lookup;refine zAo rfl _ _ 201 rfl bj (w:C) _ _ d.num y rfl A rfl f X ?_)
      | (at_mapUpdate;refine zCM rfl _ _ _ 201 rfl bj (w:C) _ _ (by unfold ay;omega) d.num y f rfl A rfl rfl ?_;intro w6 o v;have Z:w6 ⟨wr,0,G⟩=E (.int R d.index):=v.cell Z (λh=>by unfold Is at h;dsimp only at h;omega)))
     rw[J]at o;have N:=zh (a7.step v (λb _ h=>h));have O:=zh o;clear o v A;go_roundw;case rel=>exact⟨k+1,by omega,by rw[I,V],by go_num,O,N⟩
     case measure=>simp[bd];omega
    .skip;have J:H (upd (usedF (ds.take k)) d.num ah=usedF (ds.take (k+1))):=(by unfold H;rw[<-hU,hu1,hkd];rfl);clear hU F hu1;go_wp2_with (first
      | (at_lookup;refine zAo rfl _ _ 201 rfl bj (w:C) _ _ d.num y rfl A rfl f X ?_)
      | (at_mapUpdate;refine zCM rfl _ _ _ 201 rfl bj (w:C) _ _ (by unfold ay;omega) d.num y ah rfl A rfl rfl ?_;intro w6 o v;have Z:w6 ⟨wr,0,G⟩=E (.int R d.index):=v.cell Z (λh=>by unfold Is at h;dsimp only at h;omega)))
     rw[J]at o;have N:=zh (a7.step v (λb _ h=>h));have O:=zh o;clear o v A;go_roundw;case rel=>exact⟨k+1,by omega,by rw[I,V],by go_num,O,N⟩
     case measure=>simp[bd];omega
   .have X:=F.symm.trans hu1;have hkd:(ah||(d.kind==2))=true:=rfl;have J:H (upd (usedF (ds.take k)) d.num ah=usedF (ds.take (k+1))):=(by unfold H;rw[<-hU,hu1];rfl);clear hU F hu1;go_wp2_with (first
     | (at_lookup;refine zAo rfl _ _ 201 rfl bj (w:C) _ _ d.num y rfl A rfl ah X ?_)
     | (at_mapUpdate;refine zCM rfl _ _ _ 201 rfl bj (w:C) _ _ (by unfold ay;omega) d.num y ah rfl A rfl rfl ?_;intro w6 o v;have Z:w6 ⟨wr,0,G⟩=E (.int R d.index):=v.cell Z (λh=>by unfold Is at h;dsimp only at h;omega)))
    rw[J]at o;have N:=zh (a7.step v (λb _ h=>h));have O:=zh o;clear o v A;go_roundw;case rel=>exact⟨k+1,by omega,by rw[I,V],by go_num,O,N⟩
    case measure=>simp[bd];omega
  .obtain rfl:k=(ds:C):=by omega
   have a8:¬ ((ds:C):a0)<(ds:C):=(by omega);have b2:BMap wr (w:C) (usedF ds) (ds:C):=(by rw[cj]at hB;exact hB);have Hf:=zh (HX.step hf (λb hb h=>by omega));have b3:=zh (show (ds:C)<=250 from HT.2);rw[cj];clear hB hf;go_wp2_with fail;obtain⟨wA,rfl⟩:=ε wr
   go_loopw [8] (λx wz=>∃ k:C,k<=(ds:C)/\x=.int R (1048576+(k:a0))/\H (∀ i:C,i<k->usedF ds (1048576+(i:a0))=ah)/\wz=wA) (λx _=>(ds:C)-(bd x-1048576).toNat);case atStart=>exact⟨0,by omega,rfl,λi h=>by omega,rfl⟩
   case round=>
    obtain⟨k,hk,rfl,HU,rfl⟩:=hrel;obtain⟨a2,hK⟩:∃ a2:a0,a2=1048576+(k:a0):=⟨_,rfl⟩
    have HK:=zh hK;have b9:=b3.out;have b4:(bo R a2).wf=true:=WalkArith.wf_i64 (by show _/\_;omega);have d6:a2<=1048826/\0<=a2:=(by omega);rw[<-hK];clear hK;rcases hus:usedF ds a2 with _|_
    .go_wp2_with (at_lookup;refine zAo rfl _ _ 201 rfl bj (w:C) _ _ a2 b4 rfl b2 rfl f hus ?_)
     go_ret2;exact⟨⟨k,hk,by rw[<-HK];exact hus,HU,by rw[HK];rfl⟩,Hf⟩
    .have b5:H (∀ i:C,i<k+1->usedF ds (1048576+(i:a0))=ah):=λi hi=>by
      rcases Nat.lt_or_ge i k with h|h
      .exact HU i h
      .obtain rfl:i=k:=by omega
       rw[<-HK];exact hus
     have d7:=zJP ds k (λi hi=>b5 i (by omega));go_wp2_with (at_lookup;refine zAo rfl _ _ 201 rfl bj (w:C) _ _ a2 b4 rfl b2 rfl ah hus ?_)
     go_roundw;case rel=>
      refine⟨k+1,by omega,?_,b5,trivial⟩;have:=HK.out
      congr 1
      omega
     case measure=>have:=HK.out;simp[bd];omega
theorem infoOp: (Tryz.prog.info? 43).map (λi=>(i.zero,i.size,i.bytes))=E (E (af #[ap R 0,ak,ap R 0,ap R 0,ak,ak,ak,ak,ak,ap R 0,ap R 0,ab G 0 0,ak,ak]),14,192):=by kernel_rfl
theorem zC8 (k:a0)(h:ag)(x:Dev)(nm v:ag):∀ u∈(ocs k h x nm v).toList,u.oneCell'=true:=by
 intro u o;unfold ocs at o;simp at o;rcases o with rfl|rfl|rfl|rfl|rfl|rfl|rfl|rfl|rfl|rfl|rfl|rfl|rfl|rfl<;>rfl
theorem zIU {base':C}{e:TypeId}{v:bc}{F:B bc}(h:w.ownsRow o e u v n F)(J:base'<=o):w.ownsRow base' e u v n F:=by
 obtain⟨I,⟨y,N⟩|⟨g,z,A,y,O,U⟩⟩:=h;·exact⟨I,.inl ⟨y,N⟩⟩
 .exact⟨I,.inr ⟨g,z,A,y,ck J O,U⟩⟩
structure OpA where
 k:a0
 p:ag
 x:Dev
 nm:ag
 vl:ag
 c:ag
def OpA.vals (o:OpA):Array bc:=ocs o.k o.p o.x o.nm o.vl
def opF (l:B OpA):B bc:=l.flatMap λo=>o.vals.toList
theorem zFk (l:B OpA)(o:OpA):opF (l++[o])=opF l++o.vals.toList:=by unfold opF;rw[List.flatMap_append];simp
def ZD : Dev:=⟨0,0,(),(),(),(),(),0,0,G,0,0⟩
def zAN (M:B Vir)(s:B Dev×B OpA)(d:Dev):B Dev×B OpA:=
 if (virB s.1 d.index&&!inW M (plc s.1 d.parent) d.orig)=ah then (remL d.index s.1,s.2++[⟨2,plc s.1 d.index,ZD,(),(),()⟩])else s
def remF (M:B Vir)(ds:B Dev)(pre:B (a0×Dev)):B Dev×B OpA:=pre.foldl (λs x=>zAN M s x.2) (ds.map strip,[])
theorem zD0 (M:B Vir)(ds:B Dev)(pre:B (a0×Dev))(x:a0×Dev):remF M ds (pre++[x])=zAN M (remF M ds pre) x.2:=by unfold remF;rw[cb];rfl
theorem zCb (M:B Vir)(ds:B Dev):∀ pre,(remF M ds pre).2.length<=pre.length/\(remF M ds pre).1.length<=(ds:C):=by
 have h:∀ (pre:B (a0×Dev)) (s:B Dev×B OpA),(pre.foldl (λs x=>zAN M s x.2) s).2.length<=s.2.length+pre.length/\(pre.foldl (λs x=>zAN M s x.2) s).1.length<=s.1.length:=by
  intro pre
  induction pre with
  | nil=>intro s;simp
  | cons x t o=>
   intro s;have u:=o (zAN M s x.2);rw[ce,bn];have v:(zAN M s x.2).2.length<=s.2.length+1/\(zAN M s x.2).1.length<=s.1.length:=by
    unfold zAN;split
    .refine⟨by simp,?_⟩;exact List.length_filter_le _ _
    .simp
   omega
 intro pre;have:=h pre (ds.map strip,[]);rw[bw]at this;unfold remF
 simpa using this
theorem zCO (ds:B Dev):(ds.map strip).map strip=ds.map strip:=by rw[List.map_map];rfl
def RemOk (M:B Vir)(ds:B Dev):Prop:=∀ (pre:B (a0×Dev)) (x:a0×Dev),pre++[x] <+: revR ds->TreeWf (remF M ds pre).1/\TreeWf (remF M ds (pre++[x])).1/\∃ y,look (remF M ds pre).1 x.2.index=E y
def wcF (M:B Vir)(p:ag×ag):ag:=match M.find? (λv=>decide ((v.q,v.o)=p))with|some v=>v.c|none=>()
theorem zOK (M:B Vir)(p:ag×ag):∃ y:Vir,(wantG M p).getD zFR=af #[y.q,y.o,y.c,y.r]/\y.c=wcF M p:=by
 unfold wantG wcF;cases h:M.find? (λv=>decide ((v.q,v.o)=p))with
 | none=>exact⟨⟨(),(),(),0⟩,rfl,rfl⟩
 | some v=>exact⟨v,rfl,rfl⟩
def zAZ (M:B Vir)(ds:B Dev)(ct:a0->ag)(s:(a0->ag)×B OpA)(d:Dev):(a0->ag)×B OpA:=
 if (virB ds d.index&&!((ct d.index).toList==(wcF M (plc ds d.parent,d.orig)).toList))=ah then (updC s.1 d.index (wcF M (plc ds d.parent,d.orig)),s.2++[⟨3,plc ds d.index,ZD,zM,wcF M (plc ds d.parent,d.orig),()⟩])else s
def setF (M:B Vir)(ds:B Dev)(ct:a0->ag)(ops:B OpA)(k:C):(a0->ag)×B OpA:=(ds.take k).foldl (zAZ M ds ct) (ct,ops)
theorem zDv {o:B OpA}(h:ds[k]?=E d):setF M ds ct o (k+1)=zAZ M ds ct (setF M ds ct o k) d:=by unfold setF;rw[cc,h,cb];rfl
theorem zIJ (M:B Vir)(ds:B Dev)(ct:a0->ag)(o:B OpA)(k:C):(setF M ds ct o k).2.length<=(o:C)+k:=by
 have h:∀ (l:B Dev) (s:(a0->ag)×B OpA),(l.foldl (zAZ M ds ct) s).2.length<=s.2.length+(l:C):=by
  intro l
  induction l with
  | nil=>intro s;simp
  | cons x t u=>
   intro s;have y:=u (zAZ M ds ct s x);rw[ce,bn];have v:(zAZ M ds ct s x).2.length<=s.2.length+1:=by
    unfold zAZ;split<;>simp
   omega
 have:=h (ds.take k) (ct,o);have v:(ds.take k).length<=k:=by rw[ch];omega
 unfold setF;dsimp only at this;omega
def SetOk (M:B Vir)(ds:B Dev)(ct:a0->ag):Prop:=∀ d∈ds,d.kind=2/\ds.any (clP d)=f/\(virB ds d.index=ah->Sound d (cAtt (wcF M (plc ds d.parent,d.orig)))/\(wcF M (plc ds d.parent,d.orig)).size<=100000)
attribute [local go_sem] Oper.semAt_some
theorem zIM {α:Type}{L:B α}{pre:B (a0×α)}{x:a0×α}(h:pre++[x] <+: revR L):(pre:C)<(L:C)/\L.take ((L:C)-(pre:C))=L.take ((L:C)-(pre++[x]).length)++[x.2]:=by
 have v:=h.length_le;rw[zAf,bs]at v;simp only[bn,bx]at v;have u:(pre:C)<(L:C):=by omega
 have F:(revR L)[(pre:C)]?=E x:=by
  obtain⟨t,I⟩:=h;rw[<-I];simp
 refine⟨u,?_⟩;obtain⟨j,U⟩:=ε ((L:C)-1-(pre:C))
 have o:j<(L:C):=by omega
 obtain⟨z,y⟩:∃ z,L[j]?=E z:=⟨_,List.getElem?_eq_getElem o⟩
 have A:=zKl o y;have e:(L:C)-1-j=(pre:C):=by omega
 rw[e,F]at A;have J:x.2=z:=by rw[Option.some.inj A]
 have N:(L:C)-(pre:C)=j+1:=by omega
 have O:(L:C)-(pre++[x]).length=j:=by rw[bs];simp only[bn,bx];omega
 rw[N,O,J,cc,y];rfl
def TrF (a:av aw)(cs:B Dev)(b:C):Prop:=(∃ ad,a=E ad/\ad.block=b)\/∃ d∈cs,∃ ad,d.aa=E ad/\ad.block=b
def TrT (W:aq)(a:av aw)(cs:B Dev):Prop:=∀ b,TrF a cs b->∃ x T,W.heap[b]?=E (ae x T (0,0))/\(T=41\/T=79)
theorem TrT.fr {o:aq}(h:TrT W a cs)(v:Fr S W o)(y:∀ b,TrF a cs b->¬ S b):TrT o a cs:=λb u=>by
 obtain⟨x,T,z,A⟩:=h b u;exact⟨x,T,v.heap z (y b u),A⟩
theorem TrT.lt (h:TrT W a cs)(o:TrF a cs b):b<(W:C):=by
 obtain⟨x,T,u,_⟩:=h b o;exact zC u
theorem TrT.ne (h:TrT W a cs)(u:TrF a cs b){x:Array bc}{T:TypeId}(v:W.heap[k]?=E (ae x T))(z:T≠41)(A:T≠79):b≠k:=by
 rintro rfl;obtain⟨y,I,o,F⟩:=h b u;rw[v]at o;cases o;exact F.elim z A
theorem TrT.ne_own (h:TrT W a cs)(u:TrF a cs b){v:bc}{z:B bc}(A:W.ownsRow o 43 14 v n z):¬ v.ownBlock=E b:=by
 obtain⟨y,J,F,I⟩:=h b u;apply zJ A F;rcases I with rfl|rfl<;>decide
theorem Tr.foot (h:Tr W o a u ds)(A:Fr S W z)(F:∀ b,TrF a ds b->¬ S b):Tr z o a u ds:=
 ⟨h.dv.fr A (λy e _=>F _ (.inl ⟨y,e,rfl⟩)),h.wf,h.fresh,λd v=>by
  obtain⟨l,I,J⟩:=(h.el d v).att;exact⟨(h.el d v).sz,(h.el d v).drv,⟨l,I.fr A (λy e _=>F _ (.inr ⟨d,v,y,e,rfl⟩)),J⟩,(h.el d v).fresh⟩⟩
structure RmI (pb rb base:C)(w0:aq)(M:B Vir)(ct:a0->ag)(ds:B Dev)(pre:B (a0×Dev))(V:C->Prop)(W:aq):Prop where
 st:∃ (a1:av aw) (c1:C) (cs:B Dev) (ao:av aw) (no co:C),no=(remF M ds pre).2.length/\W.heap[pb]?=E (ae #[ab a1 cs c1,ab ao no co] 128)/\Tr W base a1 c1 cs/\cs.map strip=(remF M ds pre).1/\W.ownsRow rb 43 14 (ab ao no co) no (opF (remF M ds pre).2)/\TrT W a1 cs/\V=(λb=>b=pb\/(ai ao no co).ownBlock=E b\/((w0:C)<=b/\TrF a1 cs b))/\CtO W cs ct
 fr:Fr (λb=>b=pb\/(w0:C)<=b) w0 W
theorem RmI.lt {y:C}(h:RmI v y o z M ct ds pre V W)(u:V b):b<(W:C):=by
 obtain⟨a1,c1,cs,J,N,O,U,A,X,Y,F,I,rfl,Z⟩:=h.st;rcases u with rfl|u|u
 .exact zC A
 .exact(zAH F u).2
 .exact I.lt u.2
theorem RmI.mv {A N:aq}(h:RmI I J v F M ct ds pre V A)(z:Fr S A N)(u:∀ b,S b->¬ V b/\(F:C)<=b):RmI I J v F M ct ds pre V N:=by
 obtain⟨a1,c1,cs,O,U,X,Y,Z,h2,h3,h4,h5,h6,h7⟩:=h.st;subst h6;exact⟨⟨a1,c1,cs,O,U,X,Y,z.heap Z (λy=>(u _ y).1 (.inl rfl)),h2.foot z (λb y o=>(u b o).1 (.inr (.inr ⟨(u b o).2,y⟩))),h3,zG h4 z (λb y o=>(u b o).1 (.inr (.inl y))),h5.fr z (λb y o=>(u b o).1 (.inr (.inr ⟨(u b o).2,y⟩))),rfl,h7.fr z (λd hd ad e o=>(u _ o).1 (.inr (.inr ⟨(u _ o).2,.inr ⟨d,hd,ad,e,rfl⟩⟩)))⟩,h.fr.step z (λb y o=>.inr (u b o).2)⟩
theorem zQb (u mb I:C)(a:av aw)(b5:C)(ds:B Dev)(M:B Vir)(ct:a0->ag)(N:C)(w:aq)(hl:Tr w I a b5 ds)(hn:(ds:C)<=250)(hE:Env w)(g0:TrT w a ds)(hC:CtO w ds ct)(hR:RemOk M ds)(m3:∀ d∈ds,d.kind=2)
  (g1:w.heap[u]?=E (ae #[.slice a ds b5,.slice G 0 0] 128)) (hQ:QMap w mb (wantG M) N) (w3:u≠mb) (w4:I<=u) (x4:8<u):
  az am 65 #[aj (E ⟨u,0,G⟩),.map (E mb)] w λe w'=>e=.returned (.tuple #[])/\(∃ (a1:av aw) (c1:C) (cs:B Dev) (ao:av aw) (J co:C),J=(remF M ds (revR ds)).2.length/\w'.heap[u]?=E (ae #[.slice a1 cs c1,.slice ao J co] 128)/\Tr w' I a1 c1 cs/\cs.map strip=(remF M ds (revR ds)).1/\w'.ownsRow (w:C) 43 14 (.slice ao J co) J (opF (remF M ds (revR ds)).2)/\TrT w' a1 cs/\CtO w' cs ct)/\Fr (Is u) w w':=by
 obtain⟨i0,r7,r8,r9,s0⟩:=info_parts infoOp;refine(callsIn_wide (n:=12)).1 (callsIn_of_wp_marks Tryz.func65 rfl trivial (wpIn_wide.2 ?_));simp only[Tryz.ntmps65,List.size_toArray,bn,bx,Nat.reduceAdd,Nat.reduceSub,Array.replicate_succ,Array.replicate_zero,List.push_toArray,List.append_toArray,List.nil_append,List.cons_append];have o5:=zg2 hR m3;have HN:=zh hn;have s1:=zh hC;obtain⟨W0,m4,hW,b2,b3⟩:=zw w (ae #[aj (E ⟨u,0,G⟩)] 126) (ae #[.map (E mb)] 120);have o6:(W0:C)=(w:C)+2:=by rw[m4];simp
 have t2:W0 ⟨w,0,G⟩=E (aj (E ⟨u,0,G⟩)):=zB b2 0;have t0:W0 ⟨u,0,G⟩=E (.slice a ds b5):=zB (hW.heap g1 id) 0;have o7:=zh o6;have x5:=hl.dv.lenmax;clear o6;go_upto_region 1 with(fail)
 rw[<-m4];clear m4;go_wp2_with fail;apply (zJF _ _ _ _).mono;rintro e w1 ⟨rfl,rfl⟩;have hx:Fr No W0 (W0.alloc (ae #[.slice a ds b5] 46)):=(au _ _).alloc _;have db:=zF W0 (ae #[.slice a ds b5] 46);have O:=hW.step hx zi;have d2:=hx.heap b2 id;have d3:=hx.heap b3 id;rw[o7]at db;clear t0 t2 b2 b3 hx hW;go_wp2_with fail;rw[o7];generalize W0.alloc (ae #[.slice a ds b5] 46)=W2 at *;obtain⟨rb,s2⟩:=ε ((W2:C)+2)
 have v9:u<(W2:C):=by have:=zC g1;have:=O.size;omega
 have w2:u<(w:C):=zC g1;have HA:=zg4 (hl.no O) (hE.no O) (O.heap g1 id) (hQ.fr O id);have HD:=zg2 d2 d3;refine(wpIn_wide (n:=12)).1 (zAt (α:=a0×Dev) (T:=λ_=>False) (V0:=Is u) rfl (by omega) (gf:=135) (lb:=#[aj (E ⟨(w:C)+2,0,G⟩)]) rfl trivial (enters_of Tryz.func135 (by kernel_rfl) rfl) (encs:=λx:a0×Dev=>#[.int R x.1,af x.2.vals]) (λ_=>rfl) (λb h=>h.elim) (λb h=>by omega)
  (zCJ 11 (by omega) ((w:C)+2) a b5 ds W2 (Is u) db HA.1.dv (by omega) ⟨λh=>by omega,λad e _ h=>g0.ne (.inl ⟨ad,e,rfl⟩) g1 (by decide) (by decide) h⟩)
  (RmI u rb I W2 M ct ds) (λs V A h b F=>h.lt F) (λs V A g2 S h hf hS=>h.mv hf (λb F=>⟨(hS b F).1,(hS b F).2.resolve_left id⟩))
  ⟨⟨a,b5,ds,G,0,0,rfl,HA.2.2.1,HA.1,rfl,World.ownsRow_nil _ _ _ _,g0.fr O (λ_ _=>id),by
   funext b
   apply propext;constructor;·intro h;exact .inl h
   .rintro (h|h|⟨h1,h2⟩);·exact h
    .cases h
    .have:=g0.lt h2;have:=O.size;omega,s1.out.no O⟩,au _ _⟩
  (λx V a' W=>∃ Bx,(W2:C)+2<=Bx/\W.heap[Bx]?=E (ae x.2.vals 41)/\¬ V Bx/\a'={ tmps:=#[aj (E ⟨u,0,G⟩),.map (E mb),aj (E ⟨w,0,G⟩),aj (E ⟨(w:C)+1,0,G⟩),K,aj (E ⟨Bx,0,G⟩),K,K,K,K,aj (E ⟨u,0,G⟩),aj (E ⟨u,0,G⟩),aj (E ⟨u,0,G⟩),aj (E ⟨u,0,G⟩),.slice a ds b5,.func (.func 135) #[] #[aj (E ⟨(w:C)+2,0,G⟩)],.int R x.1,af x.2.vals,K,K,K,K,K,K,K,K,K,K,K,K,K,K,K,K,K,K,K,K,K,K,K,K,K,K,K,K,K,K,K,K,K,K,K,K,K,K,K,K,K,K,K,K,K,K,K,K,K,K,K,K,K,K,K,K,K,K,K,K,K],defers:=[] })
  (λx V a' A g2 h hf=>by obtain⟨Bx,h1,h2,h3,h4⟩:=h;exact⟨Bx,h1,hf.heap h2 (λe=>by omega),h3,h4⟩)
  ?assign ?body ?done)
 case assign=>
  intro l pre V x W a5 hi l3 Z;have s4:∀ b,V b->b<(W:C):=λb F=>hi.lt F
  have x6:=λa' W' (h1:Fr No W W') h2=>Z a' W' h1 h2
  clear hl hE g1 hQ hn O d2 d3 db hC hR m3;unfold be
  gi_wp2
  exact Z _ _ ((au _ _).alloc _) ⟨(W:C),l3,zF _ _,λh=>by have:=s4 _ h;omega,rfl⟩
 case done=>
  rintro V W hi Z x7;obtain⟨a1,c1,cs,ao,J,co,h9,h6,a6,g4,a8,i3,s5,i4⟩:=hi.st;have a3:Fr (Is (W2:C)) W (W.putObj (W2:C) (.deferred G)):=Fr.putObj _ _ _ rfl;have b6:∀ b,TrF a1 cs b->¬ Is (W2:C) b:=λb F e=>by
   obtain⟨y,T',h3,_⟩:=i3 b F;unfold Is at e;rw[e,Z]at h3;cases h3
  have x1:=a3.heap h6 (λh=>by omega);have x2:=zIU (zG a8 a3 (λb F h=>by have:=(zAH a8 F).1;omega)) (base':=(w:C)) (by have:=O.size;omega);have x3:Fr (Is u) w (W.putObj (W2:C) (.deferred G)):=((O.mono zn).step hi.fr (λb F h=>h)).step a3 (λb F e=>by omega) |>.mono (λb F h=>by
   rcases h with h|h
   .exact h
   .have:=O.size;omega)
  have a9:=zg6 x1 (a6.foot a3 b6) x2 x3 (i3.fr a3 b6) (i4.fr a3 (λd hd ad e=>b6 _ (.inr ⟨d,hd,ad,e,rfl⟩)));have o8:=zg2 h9 g4;clear hi a3 O h6 a6 a8 i3 g0 x1 x2 x3 s5 i4 h9 g4 b6;go_wp2_with fail;refine⟨by simp,.inl ⟨_,_,rfl,run_takeDeferred Z,?_⟩⟩;exact⟨.tuple #[],by simp[results,Tryz.results65,go_sem],rfl,⟨a1,c1,cs,ao,J,co,o8.1,a9.1,a9.2.1,o8.2,a9.2.2.1,a9.2.2.2.2.1,a9.2.2.2.2.2⟩,a9.2.2.2.1⟩
 case body=>
  rintro l pre V ⟨xi,d⟩ a' W1 hi ⟨Bx,y0,m5,o9,rfl⟩ g9 l3;obtain⟨a1,c1,cs,ao,J,co,h9,h6,a6,g4,a8,g0,rfl,i4⟩:=hi.st;have d4:d∈ds:=zB4 (p:=(xi,d)) (g9.subset (by simp));obtain⟨s6,p0,y1,d5⟩:=o5.1 pre (xi,d) g9;dsimp only at d5;rw[<-g4,zBB]at d5;obtain⟨dn,m6⟩:∃ dn,look cs d.index=E dn:=by
   cases h:look cs d.index with
   | none=>rw[h]at d5;cases d5
   | some y=>exact⟨y,rfl⟩
  have s7:=zCb M ds pre;have m7:=g9.length_le;rw[zAf,bs]at m7;simp only[bn,bx]at m7;have s8:(cs:C)<=250:=by
   have h:=bp bv g4;rw[bw]at h;have:=HN.out;omega
  have y4:J<=250:=by have:=HN.out;omega
  have p1:=zD0 M ds pre (xi,d);have l4:∀ m8:B Dev,m8.map strip=(remF M ds (pre++[(xi,d)])).1->TreeWf m8:=λm8 h=>TreeWf.ofStrip p0 (by rw[h,<-h,zCO,h])
  have b0:=zg4 h9 g4 p1 l4;have d6:∀ b,b<(W2:C)->b≠u->¬ (b=u\/(W2:C)<=b):=λb h h1 h'=>by rcases h' with h'|h'<;>omega
  have D1:=zh m5;have k3:H (Bx<(W1:C)/\(w:C)<(W1:C)/\(w:C)+1<(W1:C)):=⟨zC m5,by have:=zC HD.1;omega,by have:=zC HD.2;omega⟩
  have h7:=hi.fr;have a7:=zg2 (h7.heap HD.1 (d6 _ (zC HD.1) (by omega))) (h7.heap HD.2 (d6 _ (zC HD.2) (by omega)));have p2:Env W1:=HA.2.1.fr h7 (λb F=>d6 b (by have:=HA.2.1.sz;omega) (by omega));have m9:=HA.2.2.2.fr h7 (d6 _ HA.2.2.2.lt (by omega));have HI:=zh h7;have b1:=zh a8;have i5:=zh g0;have s9:=zh o9;have t8:H (rb<=(W1:C)):=by have:=s2;unfold H;omega
  have l5:=zh i4;have v0:=zh (o5.2 d d4);clear hl hE g1 hQ hn O d2 d3 db h7 g9 d6 m5 hi a8 g0 g4 o9 i4 h9 p1 l4 s6 p0 d5 s7 m7 hC hR m3;have i6:H (mb<(W1:C)/\u<(W1:C)):=⟨m9.lt,zC h6⟩
  have p3:H (∀ W,Fr No W1 W->QMap W mb (wantG M) N):=λW hW=>m9.fr hW id
  obtain⟨P,hP⟩:=ε (plc cs d.parent)
  obtain⟨xo,k4⟩:=ε d.orig
  have p4:(bo R d.parent).wf=true:=HA.1.wf.ok.pwf d4;have v1:H ((bo R d.index).wf=ah):=HA.1.wf.ok.iwf d4;have n4:H (∀ W,Fr No W1 W->az am 103 #[af #[.slice a1 cs c1],af d.vals] W λe w'=>e=.returned (af #[.string P,.string xo])/\Fr No W w'):=λW hW=>by
   rw[hP,k4];have hT:=a6.no hW;exact zH4 a1 c1 cs d W hT.dv hT.wf.ok (by omega) p4
  have l0:H (P.size<=ay/\xo.size<=ay):=by
   rw[hP,k4];have h1:=zBI a6.wf.ok s8 d.parent;have h2:=HA.1.wf.ok.sz d d4;refine⟨?_,?_⟩<;>unfold ay<;>omega
  obtain⟨VB,n5⟩:=ε (virB cs d.index)
  obtain⟨PO,n8⟩:=ε (plc cs d.index)
  have p5:H (∀ W,Fr No W1 W->az am 104 #[af #[.slice a1 cs c1],.int R d.index] W λe w'=>e=.returned (.bool VB)/\Fr No W w'):=λW hW=>by
   rw[n5];exact zEi a1 c1 cs I d.index W (a6.no hW) (p2.no hW).err
  have v2:H (∀ W,Fr No W1 W->az am 105 #[af #[.slice a1 cs c1],.int R d.index] W λe w'=>e=.returned (.tuple #[.string PO,.bool ah])/\Fr No W w'):=λW hW=>by
   have:=zA1 a1 c1 cs d.index W (a6.no hW).dv a6.wf.ok (by omega) v1;have e1:(((look cs d.index).map λ_=>pathOf (origin cs d.index)).getD ⟨#[]⟩)=PO:=n8.symm;rw[e1,m6]at this;exact this
  have v3:H (∀ W,Tr W I a1 c1 cs->az am 99 #[af #[.slice a1 cs c1],.int R d.index] W λe w'=>RemRes W w' cs d.index e/\Fr No W w'):=λW hW=>zH9 a1 c1 I cs d.index dn W hW (by omega) m6
  obtain⟨y,hy,_⟩:=zEv M (P,xo);obtain⟨bk,o0⟩:=ε ((wantG M (P,xo)).isSome)
  have HY:=zh hy;have l6:H (remF M ds (pre++[(xi,d)])=if (VB&&!bk)=ah then (remL d.index (cs.map strip),(remF M ds pre).2++[⟨2,PO,ZD,(),(),()⟩])else remF M ds pre):=by
   unfold H;rw[b0.2.2.1];unfold zAN;rw[<-b0.2.1,zAM,zAI,zAI,<-n5,o0,zEw,hP,k4,<-n8]
  have y5:(d.kind==2)=true:=by rw[v0];rfl
  have p6:=zh o0.symm;have d7:=zh h6;have l1:=zh a6;unfold be at n4;clear hP k4 hy o0 m9 a6 p2 d4 h6 p4 m6 n5 n8;dsimp only;unfold be
  gi_wp2
  refine zCH (From (W1:C)) (.q 0 (.q 1 (.q 2 (.q 3 (.q 4 (.q 5 (.m2 6 (.q 7 (.q 8 (.q 9 (.q 10 (.m1 11 (.m1 12 (.q 13 .fin))))))) 11 (.m1 6 (.q 7 (.q 8 (.q 9 (.q 10 (.m1 12 (.q 13 .fin)))))))))))))) _ (λW3 b7=>?_) zj;have d3:=b7.heap D1 id;have yp:=b7.heap d7 id;have y2:=b7.heap a7.1 id;have y3:=b7.heap a7.2 id;have v:∀ g:Gr (From (W1:C)) W3,DevB g.W Bx d:=λg=>DevB.of (g.fr.heap d3 (by unfold From;have:=k3.out;omega))
  have e0:=λg=>(v g).c0
  have e1:=λg=>(v g).c1
  have e2:=λg=>(v g).c2
  have e3:=λg=>(v g).c3
  have e4:=λg=>(v g).c4
  have e5:=λg=>(v g).c5
  have e6:=λg=>(v g).c6
  have e7:=λg=>(v g).c7
  have e8:=λg=>(v g).c8
  have e9:=λg=>(v g).c9
  have x2:∀ g:Gr (From (W1:C)) W3,g.W ⟨w,0,G⟩=E (aj (E ⟨u,0,G⟩)):=λg=>zB (g.fr.heap y2 (by unfold From;have:=k3.out;have:=i6.out;omega)) 0
  have x3:∀ g:Gr (From (W1:C)) W3,g.W ⟨(w:C)+1,0,G⟩=E (.map (E mb)):=λg=>zB (g.fr.heap y3 (by unfold From;have:=k3.out;have:=i6.out;omega)) 0
  have x0:∀ g:Gr (From (W1:C)) W3,g.W ⟨u,0,G⟩=E (.slice a1 cs c1):=λg=>zB (g.fr.heap yp (by unfold From;have:=k3.out;have:=i6.out;omega)) 0
  have l2:=zh b7;clear v d3 yp y2 y3 b7;(repeat(first|apply zN rfl rfl rfl|apply zK rfl rfl rfl);intro a5 Z;go_big_quiet_op;go_big_quiet_on);clear e0 e1 e2 e3 e4 e5 e6 e7 e8 e9 x0 x2 x3;refine zAC rfl rfl ?_ ?_
  focus
   go_wp2_with fail;apply (n4 W3 l2).mono;rintro e Wc ⟨rfl,d8⟩;go_wp2_with fail;apply zm d8;have h8:=zh (l2.step d8 zi);have i7:∀ W,(∃ g:Gr (From (W1:C)) Wc,W=g.W)->(bu 120 (.map (E mb)) (af #[.string P,.string xo]) ah).run am W=.ok (.tuple #[af #[.string y.q,.string y.o,.string y.c,.int R y.r],.bool bk]) W:=λW hW=>by
    obtain⟨g,rfl⟩:=hW;have:=((p3 _ h8).fr g.fr (by unfold From;have:=i6.out;omega)).lookok (zDf g.W) ca l0.1 l0.2;rw[this,HY,p6]
   apply zN rfl rfl rfl;intro a5 Z;refine zAp rfl _ _ 120 rfl (.map (E mb)) (af #[.string P,.string xo]) _ rfl rfl i7 ?_
   go_frame
   go_big_quiet_on;clear i7;apply zN rfl rfl rfl;intro a5 Z;go_big_quiet_op;go_big_quiet_on;apply zN rfl rfl rfl;intro a5 Z;go_big_quiet_op;go_big_quiet_on;apply zN rfl rfl rfl;intro a5 Z;go_big_quiet_op;go_big_quiet_on;clear d8;apply zH rfl;obtain⟨Wa,i8,i9,qa⟩:=zy Wc (ae #[.string (),.string (),.string (),.int R 0] 94);go_wp2_with fail;apply zp;rw[<-i8];clear i8;have j0:H (Fr No W1 Wa):=h8.step i9 zi;have b8:H ((W1:C)<=(Wc:C)):=h8.size;have qz:=qa;clear i9 qa;obtain⟨g2,hB⟩:=ε (Wc:C)
   rw[<-hB]at qz b8 ⊢;clear hB;obtain⟨z0,z1,z2,z3⟩:=cl4 qz;obtain⟨f0,f1,f2,f3⟩:=fl4 qz;have h4:=zh (set4 qz rfl (.string y.q) (.string y.o) (.string y.c) (.int R y.r));clear qz;apply zH rfl;go_wp2_with fail;refine ba ⟨h4.2.mono (λb _ h=>by unfold Is at h;unfold From;have:=b8.out;omega),?_⟩;apply zN rfl rfl rfl;intro a5 Z;go_big_quiet_op;go_big_quiet_on;apply zW;obtain⟨w5,g5⟩:=ε ((((Wa.setCell ⟨g2,0,G⟩ (.string y.q)).setCell ⟨g2,1,G⟩ (.string y.o)).setCell ⟨g2,2,G⟩ (.string y.c)).setCell ⟨g2,3,G⟩ (.int R y.r))
   rw[<-g5];have b9:=h4.out;rw[<-g5]at b9;have a4:H (Fr No W1 w5):=j0.step b9.2 (λb F h=>by unfold Is at h;have:=b8.out;omega);have v4:=zh b9.1;clear g5 h4 b9 z0 z1 z2 z3 f0 f1 f2 f3 j0 b8
  rotate_left 1
  focus
   obtain⟨Wa,i8,i9,qa⟩:=zy W3 (ae #[.string (),.string (),.string (),.int R 0] 94);go_wp2_with fail;apply zp;rw[<-i8];clear i8;have p7:=zh (l2.step i9 zi);clear i9;apply zH rfl;go_wp2_with fail;apply (n4 Wa p7).mono;rintro e Wc ⟨rfl,d8⟩;go_wp2_with fail;apply zm d8;have qb:=d8.heap qa id;clear qa;have h8:=zh (p7.step d8 zi);have i7:∀ W,(∃ g:Gr (From (W1:C)) Wc,W=g.W)->(bu 120 (.map (E mb)) (af #[.string P,.string xo]) ah).run am W=.ok (.tuple #[af #[.string y.q,.string y.o,.string y.c,.int R y.r],.bool bk]) W:=λW hW=>by
    obtain⟨g,rfl⟩:=hW;have:=((p3 _ h8).fr g.fr (by unfold From;have:=i6.out;omega)).lookok (zDf g.W) ca l0.1 l0.2;rw[this,HY,p6]
   apply zN rfl rfl rfl;intro a5 Z;refine zAp rfl _ _ 120 rfl (.map (E mb)) (af #[.string P,.string xo]) _ rfl rfl i7 ?_
   go_frame
   go_big_quiet_on;clear i7;apply zN rfl rfl rfl;intro a5 Z;go_big_quiet_op;go_big_quiet_on;apply zN rfl rfl rfl;intro a5 Z;go_big_quiet_op;go_big_quiet_on;apply zN rfl rfl rfl;intro a5 Z;go_big_quiet_op;go_big_quiet_on;clear d8;have j0:H (Fr No W1 Wc):=h8.out;have b8:H ((W1:C)<=(W3:C)):=l2.size;have qz:=qb;clear qb;obtain⟨g2,hB⟩:=ε (W3:C)
   rw[<-hB]at qz b8 ⊢;clear hB;obtain⟨z0,z1,z2,z3⟩:=cl4 qz;obtain⟨f0,f1,f2,f3⟩:=fl4 qz;have h4:=zh (set4 qz rfl (.string y.q) (.string y.o) (.string y.c) (.int R y.r));clear qz;apply zH rfl;go_wp2_with fail;refine ba ⟨h4.2.mono (λb _ h=>by unfold Is at h;unfold From;have:=b8.out;omega),?_⟩;apply zN rfl rfl rfl;intro a5 Z;go_big_quiet_op;go_big_quiet_on;apply zW;obtain⟨w5,g5⟩:=ε ((((Wc.setCell ⟨g2,0,G⟩ (.string y.q)).setCell ⟨g2,1,G⟩ (.string y.o)).setCell ⟨g2,2,G⟩ (.string y.c)).setCell ⟨g2,3,G⟩ (.int R y.r))
   rw[<-g5];have b9:=h4.out;rw[<-g5]at b9;have a4:H (Fr No W1 w5):=j0.step b9.2 (λb F h=>by unfold Is at h;have:=b8.out;omega);have v4:=zh b9.1;clear g5 h4 b9 z0 z1 z2 z3 f0 f1 f2 f3 j0 b8
  all_goals (
   by_cases o1:VB=ah/\bk=f
   .obtain⟨rfl,rfl⟩:=o1;have j1:H (remF M ds (pre++[(xi,d)])=(remL d.index (cs.map strip),(remF M ds pre).2++[⟨2,PO,ZD,(),(),()⟩])):=l6.trans (br rfl)
    gi_wp2
    refine zBb No [(0,f),(1,f),(2,f),(3,f),(4,f),(5,f),(6,ah),(7,f),(8,f),(9,f),(10,f),(11,f),(12,f),(13,f),(14,f),(15,f)] (λw6 X=>?_);have d3:=X.heap (a4.heap D1 id) id;have yp:=X.heap (a4.heap d7 id) id;have y2:=X.heap (a4.heap a7.1 id) id;have y3:=X.heap (a4.heap a7.2 id) id;have v:∀ g:Gr (No) w6,DevB g.W Bx d:=λg=>DevB.of (g.fr.heap d3 (id))
    have e0:=λg=>(v g).c0
    have e1:=λg=>(v g).c1
    have e2:=λg=>(v g).c2
    have e3:=λg=>(v g).c3
    have e4:=λg=>(v g).c4
    have e5:=λg=>(v g).c5
    have e6:=λg=>(v g).c6
    have e7:=λg=>(v g).c7
    have e8:=λg=>(v g).c8
    have e9:=λg=>(v g).c9
    have x2:∀ g:Gr (No) w6,g.W ⟨w,0,G⟩=E (aj (E ⟨u,0,G⟩)):=λg=>zB (g.fr.heap y2 (id)) 0
    have x3:∀ g:Gr (No) w6,g.W ⟨(w:C)+1,0,G⟩=E (.map (E mb)):=λg=>zB (g.fr.heap y3 (id)) 0
    have x0:∀ g:Gr (No) w6,g.W ⟨u,0,G⟩=E (.slice a1 cs c1):=λg=>zB (g.fr.heap yp (id)) 0
    have j2:=zh (a4.step X zi);clear v d3 yp y2 y3 X;(repeat(first|apply zR rfl rfl rfl|apply zS rfl rfl rfl);intro a5 Z;go_big_quiet_op;go_big_quiet_on);clear e0 e1 e2 e3 e4 e5 e6 e7 e8 e9 x0 x2 x3;apply zu rfl;go_wp2_with fail;apply (p5 w6 j2).mono;rintro e w7 ⟨rfl,g6⟩;have g7:=zh (j2.step g6 zi);go_wp2_with fail;apply zm g6;clear g6;(repeat(first|apply zR rfl rfl rfl|apply zS rfl rfl rfl);intro a5 Z;go_big_quiet_op;go_big_quiet_on);apply zY
    gi_upto_region 5 with(fail)
    refine zBb No [(0,f),(1,f),(2,f),(3,f),(4,f),(5,f),(6,ah),(7,f),(8,f),(9,f),(10,f),(11,f)] (λw8 Y=>?_);have d3:=Y.heap (g7.heap D1 id) id;have yp:=Y.heap (g7.heap d7 id) id;have y2:=Y.heap (g7.heap a7.1 id) id;have x0:∀ g:Gr No w8,g.W ⟨u,0,G⟩=E (.slice a1 cs c1):=λg=>zB (g.fr.heap yp id) 0
    have x2:∀ g:Gr No w8,g.W ⟨w,0,G⟩=E (aj (E ⟨u,0,G⟩)):=λg=>zB (g.fr.heap y2 id) 0
    have e0:∀ g:Gr No w8,g.W ⟨Bx,0,G⟩=E (.int R d.index):=λg=>zB (g.fr.heap d3 id) 0
    have p8:=zh (g7.step Y zi);clear d3 yp y2 Y;(repeat(first|apply zR rfl rfl rfl|apply zS rfl rfl rfl);intro a5 Z;go_big_quiet_op;go_big_quiet_on);clear e0 x0 x2;apply zu rfl;go_wp2_with fail;apply (v2 w8 p8).mono;rintro e w9 ⟨rfl,d9⟩;have v5:=zh (p8.step d9 zi);go_wp2_with fail;apply zm d9;clear d9;(repeat(first|apply zR rfl rfl rfl|apply zS rfl rfl rfl);intro a5 Z;go_big_quiet_op;go_big_quiet_on);apply zY
    gi_upto_region 6 with(fail)
    refine zCQ 11 (λb=>(ai ao J co).ownBlock=E b) (.q 0 (.q 1 (.q 2 (.q 3 (.q 4 (.q 5 (.q 6 (.m1 7 (.m1 8 (.m1 9 (.q 10 (.m1 11 .fin)))))))))))) _ (λW3 b7=>?_) zj;have j3:=zh (v5.step b7 zi);clear b7;have k7:=j3.heap d7 id;have h0:=zG b1 j3 (λ_ _=>id);have n7:=zJ h0 k7 (by decide);have g3:=j3.heap a7.1 id;have n3:=zJ h0 g3 (by decide);have t7:∀ g:Gr (λb=>(ai ao J co).ownBlock=E b) W3,g.W ⟨u,1,G⟩=E (.slice ao J co):=λg=>zB (g.fr.heap k7 n7) 1
    have t3:∀ g:Gr (λb=>(ai ao J co).ownBlock=E b) W3,g.W ⟨w,0,G⟩=E (aj (E ⟨u,0,G⟩)):=λg=>zB (g.fr.heap g3 n3) 0
    have s3:=j3.size;clear g3 n3;(repeat apply tx_q rfl rfl rfl;intro a5 Z;go_big_quiet_op;go_big_quiet_on);clear t7 t3;have al:=(au No W3).alloc (ae (ocs 2 (PO) ZD () ()) 43);have l7:=zG h0 al (λ_ _=>id);have k5:=al.heap k7 id;have p9:=zh al;clear h0 k7 al;apply zBF rfl;go_wp2_with fail;refine ba ⟨λ_=>p9.mono zn,?_⟩;apply zBF rfl;go_wp2_with (at_builtin;refine cn _ rfl _ _ 87 rfl rb 43 i0 (af #[.int R 0,.string ak,.int R 0,.int R 0,.string ak,.string ak,.string ak,.string ak,.string ak,.int R 0,.int R 0,.slice G 0 0,.string ak,.string ak]) 14 192 cm r7 r8 r9 s0 rfl (by decide) _ _ _ rfl l7 ⟨W3,0,G⟩ 1 1 (ocs 2 (PO) ZD () ()).toList rfl rfl (zk _ (ocs 2 (PO) ZD () ()) _ rfl) (zC8 _ _ _ _ _) (by unfold ay;omega) (by omega) (by have:=t8.out;rw[cd];omega) ?_;intro v' w6 h5 r0 _ v6;obtain⟨d0,d1,rfl⟩:=zI h5)
    have gf:Fr (λb=>(ai ao J co).ownBlock=E b) (W3.alloc (ae (ocs 2 (PO) ZD () ()) 43)) w6:=Fr.of_grown r0;apply zf gf;have k6:=gf.heap k5 n7;have n6:=zJ h5 k6 (by decide);have t7:w6 ⟨u,1,G⟩=E (.slice ao J co):=zB k6 1;have f7:w6.frozen? ⟨u,1,G⟩=false:=zD k6 1;have x8:Fr (Is u) w6 (w6.setCell ⟨u,1,G⟩ (.slice d0 (J+1) d1)):=bg (au _ _) _;have k8:(w6.setCell ⟨u,1,G⟩ (.slice d0 (J+1) d1)).heap[u]?=E (ae #[.slice a1 cs c1,.slice d0 (J+1) d1] 128):=zE k6 1 (.slice d0 (J+1) d1);have l8:=zG h5 x8 (λb F h=>n6 (by unfold Is at h;rw[<-h];exact F));have ff:Fr (λb=>b=u\/(ai ao J co).ownBlock=E b) W1 (w6.setCell ⟨u,1,G⟩ (.slice d0 (J+1) d1)):=(((j3.step p9 zi).mono zn).step gf (λb _ h=>.inr h)).step x8 (λb _ h=>.inl h);have HR:=zg3 k8 l8 ff;obtain⟨WZ,o2⟩:=ε (w6.setCell ⟨u,1,G⟩ (.slice d0 (J+1) d1))
    rw[<-o2]at HR;clear l7 h5 r0 gf k5 k6 k8 x8 ff n6 n7 v6 l8;apply zBF rfl;go_wp2_with fail;refine ba ⟨λ_=>au _ _,?_⟩;(repeat apply tx_q rfl rfl rfl;intro a5 Z;go_big_quiet_op;go_big_quiet_on);apply zBF rfl;go_wp2_with fail;refine ba ⟨λh=>(h rfl).elim,?_⟩;apply zGP;rw[<-o2];clear o2 t7 f7
    gi_upto_region 7 with(fail)
    have v7:H (Tr WZ I a1 c1 cs):=l1.foot HR.2.2 (λb F h=>h.elim (i5.ne F d7 (by decide) (by decide)) (i5.ne_own F b1));have o3:¬ (Bx=u\/(ai ao J co).ownBlock=E Bx):=λh=>s9 (h.elim .inl (λh=>.inr (.inl h)))
    have r1:¬ ((w:C)=u\/(ai ao J co).ownBlock=E (w:C)):=λh=>h.elim (λh=>by omega) (zJ b1 a7.1 (by decide))
    refine zCH (Is u) (.q 0 (.q 1 (.q 2 (.q 3 (.q 5 (.q 6 (.m1 4 (.m1 7 (.q 8 (.q 9 (.q 10 (.q 11 (.q 12 (.m1 13 .fin)))))))))))))) _ (λw8 Y=>?_) zj;have d3:=Y.heap (HR.2.2.heap D1 o3) id;have yp:=Y.heap HR.1 id;have y2:=Y.heap (HR.2.2.heap a7.1 r1) id;have x0:w8 ⟨u,0,G⟩=E (.slice a1 cs c1):=zB yp 0;have x2:∀ g:Gr (Is u) w8,g.W ⟨w,0,G⟩=E (aj (E ⟨u,0,G⟩)):=λg=>zB (g.fr.heap y2 (λh=>by omega)) 0
    have e0:∀ g:Gr (Is u) w8,g.W ⟨Bx,0,G⟩=E (.int R d.index):=λg=>zB (g.fr.heap d3 (λh=>o3 (.inl h))) 0
    have r2:=v3.out w8 (v7.out.no Y);have H8:=zg2 Y yp;have y6:u<(w8:C):=zC yp;have y7:(W1:C)<=(w8:C):=(by have:=HR.2.2.size;have:=Y.size;omega);clear d3 y2 Y yp r1;(repeat apply zN rfl rfl rfl;intro a5 Z;go_big_quiet_op;go_big_quiet_on);clear e0 x2 o3;apply zH rfl;go_wp2_with fail;apply zq;clear x0;apply zH rfl;go_wp2_with fail;apply r2.mono;rintro e w9 ⟨⟨a',c',a2,rfl,hD,r3,j4,b4⟩,d9⟩;have k9:=d9.heap H8.2 id;have t9:w9 ⟨u,0,G⟩=E (.slice a1 cs c1):=zB k9 0;have f9:w9.frozen? ⟨u,0,G⟩=false:=zD k9 0;have x9:Fr (Is u) w9 (w9.setCell ⟨u,0,G⟩ (.slice a' a2 c')):=bg (au _ _) _;have kE:(w9.setCell ⟨u,0,G⟩ (.slice a' a2 c')).heap[u]?=E (ae #[.slice a' a2 c',.slice d0 (J+1) d1] 128):=zE k9 0 _;have F9:Fr No WZ w9:=H8.1.step d9 zi;have j5:=zG HR.2.1 F9 (λ_ _=>id);have n9:=zJ j5 k9 (by decide);have j6:=zG j5 x9 (λb F h=>n9 (by unfold Is at h;rw[<-h];exact F));have j7:a2.map strip=(remF M ds (pre++[(xi,d)])).1:=by
     rw[j1,b4.strip,zIO]
    have l9:TreeWf a2:=b0.2.2.2 a2 j7;have m0:CtO w9 a2 ct:=((l5.out.fr (HR.2.2.step H8.1 zn) (λx hx ad e h=>h.elim (i5.ne (.inr ⟨x,hx,ad,e,rfl⟩) d7 (by decide) (by decide)) (i5.ne_own (.inr ⟨x,hx,ad,e,rfl⟩) b1))).sub (λx hx=>(List.mem_filter.1 hx).1)).cop b4;have j8:∀ b,TrF a' a2 b->(w8:C)<=b:=λb F=>by
     rcases F with⟨ad,e,rfl⟩|⟨x,hx,ad,e,rfl⟩
     .exact j4 ad e
     .obtain⟨z,_,hz⟩:=b4.mem hx;exact hz.fresh ad e
    have r4:TrT w9 a' a2:=λb F=>by
     rcases F with⟨ad,e,rfl⟩|⟨x,hx,ad,e,rfl⟩
     .obtain⟨x,hx⟩:=r3 ad e;exact⟨x,_,hx,.inl rfl⟩
     .obtain⟨z,_,hz⟩:=b4.mem hx;obtain⟨x,hx⟩:=hz.typ ad e;exact⟨x,_,hx,.inr rfl⟩
    have b6:∀ b,TrF a' a2 b->¬ Is u b:=λb F h=>by have:=j8 b F;omega
    have r5:Tr w9 I a' c' a2:=b4.tr (λx hx=>by have h:=(List.mem_filter.1 hx).1;exact⟨(l1.el x h).sz,(l1.el x h).drv⟩) hD l9 j4 (by omega);have U:=zh (ar kE (ar (r5.foot x9 b6) (ar j7 (ar j6 (ar (r4.fr x9 b6) (ar j8 (ar ((HR.2.2.step F9 zn).step x9 (λb _ h=>.inl h)) (m0.fr x9 (λx hx ad e=>b6 _ (.inr ⟨x,hx,ad,e,rfl⟩))))))))));have j9:∀ b,(ai d0 (J+1) d1).ownBlock=E b->rb<=b:=λb h=>(zAH j6 h).1
    have k0:∀ b,(ai ao J co).ownBlock=E b->rb<=b:=λb h=>(zAH b1 h).1
    have HO:=zg2 j9 k0;clear hD r3 j4 b4 k9 kE F9 j5 n9 j6 j7 l9 j8 r4 b6 r5 j9 k0 r2 m0;go_wp2_with fail;apply zm d9;clear d9;(repeat apply zN rfl rfl rfl;intro a5 Z;go_big_quiet_op;go_big_quiet_on);apply zH rfl;have X9:=zh x9;clear x9;go_wp2_with fail;apply zf X9;apply zW
    gi_wp2
    have v8:J+1=(remF M ds (pre++[(xi,d)])).2.length:=(by rw[j1.out,bs];have:=b0.1;simp;omega);refine⟨_,?_,⟨⟨a',c',a2,d0,J+1,d1,v8,U.1,U.2.1,U.2.2.1,by rw[j1,zFk];exact U.2.2.2.1,U.2.2.2.2.1,rfl,U.2.2.2.2.2.2.2⟩,HI.step U.2.2.2.2.2.2.1 (λb F h=>?_)⟩,U.2.2.2.2.2.2.1.mono (λb _ h=>h.elim .inl (λh=>.inr (.inl h)))⟩
    .rintro b (h|h|h);·exact .inl (.inl h)
     .exact .inr (by have:=HO.1 b h;omega)
     .exact .inr (by have:=U.2.2.2.2.2.1 b h.2;omega)
    .rcases h with h|h
     .exact .inl h
     .exact .inr (by have:=HO.2 b h;omega)
   .have r6:VB=f\/VB=ah/\bk=true:=by
     revert o1;cases VB<;>cases bk<;>simp
    have o4:H (remF M ds (pre++[(xi,d)])=remF M ds pre):=by
     unfold H;rw[l6.out,bq (by rcases r6 with rfl|⟨rfl,rfl⟩<;>simp)]
    clear o1;rcases r6 with rfl|⟨rfl,rfl⟩
    all_goals (
     gi_wp2
     refine zBb No [(0,f),(1,f),(2,f),(3,f),(4,f),(5,f),(6,ah),(7,f),(8,f),(9,f),(10,f),(11,f),(12,f),(13,f),(14,f),(15,f)] (λw6 X=>?_);have d3:=X.heap (a4.heap D1 id) id;have yp:=X.heap (a4.heap d7 id) id;have y2:=X.heap (a4.heap a7.1 id) id;have y3:=X.heap (a4.heap a7.2 id) id;have v:∀ g:Gr (No) w6,DevB g.W Bx d:=λg=>DevB.of (g.fr.heap d3 (id))
     have e0:=λg=>(v g).c0
     have e1:=λg=>(v g).c1
     have e2:=λg=>(v g).c2
     have e3:=λg=>(v g).c3
     have e4:=λg=>(v g).c4
     have e5:=λg=>(v g).c5
     have e6:=λg=>(v g).c6
     have e7:=λg=>(v g).c7
     have e8:=λg=>(v g).c8
     have e9:=λg=>(v g).c9
     have x2:∀ g:Gr (No) w6,g.W ⟨w,0,G⟩=E (aj (E ⟨u,0,G⟩)):=λg=>zB (g.fr.heap y2 (id)) 0
     have x3:∀ g:Gr (No) w6,g.W ⟨(w:C)+1,0,G⟩=E (.map (E mb)):=λg=>zB (g.fr.heap y3 (id)) 0
     have x0:∀ g:Gr (No) w6,g.W ⟨u,0,G⟩=E (.slice a1 cs c1):=λg=>zB (g.fr.heap yp (id)) 0
     have j2:=zh (a4.step X zi);clear v d3 yp y2 y3 X;(repeat(first|apply zR rfl rfl rfl|apply zS rfl rfl rfl);intro a5 Z;go_big_quiet_op;go_big_quiet_on);clear e0 e1 e2 e3 e4 e5 e6 e7 e8 e9 x0 x2 x3;apply zu rfl;go_wp2_with fail;apply (p5 w6 j2).mono;rintro e w7 ⟨rfl,g6⟩;have g7:=zh (j2.step g6 zi);go_wp2_with fail;apply zm g6;clear g6;have e7:∀ g:Gr No w7,g.W ⟨Bx,7,G⟩=E (.int R d.kind):=λg=>zB (g.fr.heap (g7.heap D1 id) id) 7
     (repeat(first|apply zR rfl rfl rfl|apply zS rfl rfl rfl);intro a5 Z;go_big_quiet_op;go_big_quiet_on);apply zY
     gi_wp2
     have g8:=zh g7;refine⟨_,λb h=>.inl h,⟨⟨a1,c1,cs,ao,J,co,by rw[o4];exact b0.1,g8.heap d7 id,l1.out.no g8,by rw[o4];exact b0.2.1,by rw[o4];exact zG b1 g8 (λ_ _=>id),i5.out.fr g8 (λ_ _=>id),rfl,l5.out.no g8⟩,HI.step g8 zn⟩,g8.mono zn⟩
     )
   )
structure SetI (pb rb base:C)(w:aq)(M:B Vir)(ds:B Dev)(ct:a0->ag)(ops:B OpA)(S:C->Prop)(j:C)(W:aq):Prop where
 st:∃ (a1:av aw) (c1:C) (cs:B Dev) (ao:av aw) (no co:C),no=(setF M ds ct ops j).2.length/\W.heap[pb]?=E (ae #[ab a1 cs c1,ab ao no co] 128)/\Tr W base a1 c1 cs/\cs.map strip=ds.map strip/\W.ownsRow rb 43 14 (ab ao no co) no (opF (setF M ds ct ops j).2)/\TrT W a1 cs/\CtO W cs (setF M ds ct ops j).1/\∀ b,(ai ao no co).ownBlock=E b->S b\/(w:C)<=b
 fr:Fr S w W
theorem zLb (z:TreeOk ds)(v:ds[k]?=E d):fidx (λy=>y.index==d.index) ds=(k:a0):=by
 refine zHs _ ds k d v (by simp) λy A=>?_
 obtain⟨i,u⟩:=cf A;have o:i<k:=by
  have h:=(List.getElem?_eq_some_iff.1 u).1;rw[ch]at h;omega
 rw[List.getElem?_take_of_lt o]at u;have F:(ds.map bm)[i]?=E y.index:=by rw[bh,u];rfl
 have I:(ds.map bm)[k]?=E d.index:=by rw[bh,v];rfl
 obtain⟨J,N⟩:=List.getElem?_eq_some_iff.1 F;obtain⟨O,U⟩:=List.getElem?_eq_some_iff.1 I;have:=List.pairwise_iff_getElem.1 z.nd i k J O o;rw[N,U]at this
 simpa using this
theorem zPw (U mb rb V:C)(a:av aw)(m5:C)(ds:B Dev)(M:B Vir)(ct:a0->ag)(J:B OpA)(g7:av aw)(b4 g8:C)(N:C)(w:aq)(hl:Tr w V a m5 ds)(hn:(ds:C)<=250)(j4:b4<=1000)(hE:Env w)(p2:TrT w a ds)(hC:CtO w ds ct)(hK:SetOk M ds ct)
  (j5:w.heap[U]?=E (ae #[ab a ds m5,ab g7 b4 g8] 128)) (a5:w.ownsRow rb 43 14 (ab g7 b4 g8) b4 (opF J)) (p3:b4=(J:C)) (hQ:QMap w mb (wantG M) N) (D7:U≠mb) (v4:V<=(w:C)) (v7:rb<=(w:C)) (L0:9<=rb) (L3:8<U):
  az am 66 #[aj (E ⟨U,0,G⟩),.map (E mb)] w λe w'=>e=.returned (.tuple #[])/\SetI U rb V w M ds ct J (λb=>b=U\/(ai g7 b4 g8).ownBlock=E b) (ds:C) w':=by
 obtain⟨i0,D8,p4,F0,F1⟩:=info_parts infoOp;obtain⟨S,hS⟩:∃ S:C->Prop,S=λb=>b=U\/(ai g7 b4 g8).ownBlock=E b:=⟨_,rfl⟩
 rw[<-hS];have t0:w ⟨U,0,G⟩=E (ab a ds m5):=zB j5 0;have L4:=hl.dv.lenmax;have HN:=zg3 hn j4 p3;have F2:=zh hK;have v9:=zh p2;have w1:=zh hC;have w2:=zg2 v4 v7;have a2:=zg2 a5 hS;have HA:=zg4 hl hE j5 hQ;have w3:H (SetI U rb V w M ds ct J S 0 w):=⟨⟨a,m5,ds,g7,b4,g8,p3,j5,hl,rfl,a5,p2,hC,λb I=>.inl (by rw[hS];exact .inr I)⟩,au _ _⟩
 have L5:=zC j5;clear hl hn hE j5 hQ hK p2 hC a5 p3 j4 v4 v7 hS;go_enter Tryz.func66,Tryz.ntmps66;go_wp2_with fail;clear t0;go_loopw [17] (λx wr=>∃ (j:C),j<=(ds:C)/\x=ap R (j:a0)/\H (SetI U rb V w M ds ct J S j wr)) (λx _=>(ds:C)-(bd x).toNat);case atStart=>exact⟨0,by omega,rfl,w3⟩
 case round=>
  obtain⟨j,hj,rfl,g9⟩:=hrel;by_cases F3:j<(ds:C)
  .have w4:(j:a0)<(ds:C):=by omega
   have hf:=g9.out.fr;have p5:∀ b,TrF a ds b->¬ S b:=λb I h=>by
    rw[a2.2]at h;exact h.elim (v9.ne I HA.2.2.1 (by decide) (by decide)) (v9.ne_own I a2.1)
   have d5:=HA.1.foot hf p5;obtain⟨bb,L6,d,F4,hd,c0,c1,c2,c3,c4,c5,c6,c7,c8,c9⟩:=d5.dv.dev F3;have a6:=bi hd;obtain⟨W1,p8,a7,d1⟩:=zy wr (ae d.vals 41);have L7:=hf.size;have D1:=zh d1;have w9:H ((wr:C)<(W1:C)):=zC d1;have x1:∀ b,b<(w:C)->S b->b=U\/(ai g7 b4 g8).ownBlock=E b:=λb _ h=>by rw[a2.2]at h;exact h
   have x2:∀ b,b<9->¬ S b:=λb I h=>by
    have h9:=HA.2.1.sz;rcases x1 b (by omega) h with h|h
    .omega
    .have:=(zAH a2.1 h).1;omega
   have x4:¬ S mb:=λh=>by
    rw[a2.2]at h;exact h.elim (λh=>D7 h.symm) (HA.2.2.2.ne_own a2.1)
   obtain⟨a1,k1,cs,ao,no,co,j4,x5,x6,b5,a5,j6,x7,x9⟩:=g9.st;have p9:=zh x9;have y2:=HA.2.1.fr hf x2;have r0:=HA.2.2.2.fr hf x4;have r1:Atts wr d.aa d.ac (cAtt (ct d.index))/\d.an=(cAtt (ct d.index)).length:=⟨(w1 d a6).1.fr hf (λad e _=>p5 _ (.inr ⟨d,a6,ad,e,rfl⟩)),(w1 d a6).2⟩
   have y3:(cs:C)=(ds:C):=(by have:=bp bv b5;simpa using this);have j7:=F2.out d a6;have L8:no<=1250:=(by have:=zIJ M ds ct J j;have:=HN.out;omega);have j8:=zh (a7.heap x5 id);have a8:=zh (x6.no a7);have r2:=zh (y2.no a7);have y4:H (∀ W,Fr No W1 W->QMap W mb (wantG M) N):=λW hW=>(r0.fr a7 id).fr hW id
   have r3:H (mb<(W1:C)/\U<(W1:C)):=⟨(r0.fr a7 id).lt,zC j8⟩
   have m6:=zg2 (r1.1.no a7 (λ_=>id)) r1.2;have A:=zh (ar j4 (ar b5 (ar (zG a5 a7 (λ_ _=>id)) (ar (j6.fr a7 (λ_ _=>id)) (ar (x7.no a7) (ar y3 (ar j7 (ar hd (g9.out.fr.step a7 zn)))))))));have j9:H ((∀ b,TrF a1 cs b->b<(wr:C))/\∀ b,(ai ao no co).ownBlock=E b->b<(wr:C)):=⟨λb I=>j6.lt I,λb I=>(zAH a5 I).2⟩
   obtain⟨P,hP⟩:=ε (plc ds d.parent)
   obtain⟨xo,m7⟩:=ε d.orig
   obtain⟨VB,r4⟩:=ε (virB ds d.index)
   obtain⟨PO,y5⟩:=ε (plc ds d.index)
   obtain⟨tx,r7⟩:=ε (ct d.index)
   have r8:H (∀ W,Fr No W1 W->az am 103 #[af #[ab a1 cs k1],af d.vals] W λe w'=>e=.returned (af #[P,xo])/\Fr No W w'):=λW hW=>by
    have hT:=a8.out.no hW;have e1:P=plc cs d.parent:=(by rw[hP,<-zAI,<-b5,zAI]);rw[e1,m7];exact zH4 a1 k1 cs d W hT.dv hT.wf.ok (by have:=HN.out;omega) (d5.wf.ok.pwf a6)
   have m8:H (P.size<=ay/\xo.size<=ay):=by
    rw[hP,m7];have h1:=zBI d5.wf.ok HN.1 d.parent;have h2:=d5.wf.ok.sz d a6;refine⟨?_,?_⟩<;>unfold ay<;>omega
   have F5:H (∀ W,Fr No W1 W->az am 104 #[af #[ab a1 cs k1],d.index] W λe w'=>e=.returned VB/\Fr No W w'):=λW hW=>by
    have e1:VB=virB cs d.index:=(by rw[r4,<-zAM,<-b5,zAM]);rw[e1];exact zEi a1 k1 cs V d.index W (a8.out.no hW) (r2.out.no hW).err
   have y6:H (∀ W,Fr No W1 W->az am 106 #[af d.vals] W λe w'=>e=.returned tx/\Fr No W w'):=λW hW=>by
    have:=zMI d (cAtt (ct d.index)) W (m6.1.no hW (λ_=>id)) m6.2;rw[show getP (cAtt (ct d.index)) zAP=tx from by rw[r7];exact zCn _]at this;exact this
   obtain⟨y,hy,y7⟩:=zOK M (P,xo);have HY:=zg7 hy y7 hP m7 r4 y5 r7;unfold be at p8 r8 y6;clear y3 hd d1 hf a7 p5 d5 x1 x2 x4 j4 x5 x6 b5 a5 j6 x7 x9 y2 r0 r1 j7 a6 hP m7 r4 y5 r7 hy y7;subst F4;go_upto_region 3 with(fail)
   rw[<-p8];clear p8 c0 c1 c2 c3 c4 c5 c6 c7 c8 c9;go_cut [6] (λp6 wx=>∃ a9,p6=aj (E ⟨a9,0,G⟩)/\H (wx.heap[a9]?=E (ae #[y.q,y.o,y.c,y.r] 94)/\(W1:C)<=a9)/\H (Fr No W1 wx));case first=>
    refine zZ (From (W1:C)) (.q 0 (.q 1 (.q 2 (.q 3 (.q 4 (.q 5 (.m2 6 (.q 7 (.m1 8 (.m1 9 .fin))) 8 (.m1 6 (.q 7 (.m1 9 .fin)))))))))) _ (λW3 m9=>?_) zj;have d3:=m9.heap D1 id;have x3:=m9.heap j8 id;have O:∀ g:Gr (From (W1:C)) W3,DevB g.W (wr:C) d:=λg=>DevB.of (g.fr.heap d3 (by unfold From;have:=w9.out;omega))
    have e0:=λg=>(O g).c0
    have e1:=λg=>(O g).c1
    have e2:=λg=>(O g).c2
    have e3:=λg=>(O g).c3
    have e4:=λg=>(O g).c4
    have e5:=λg=>(O g).c5
    have e6:=λg=>(O g).c6
    have e7:=λg=>(O g).c7
    have e8:=λg=>(O g).c8
    have e9:=λg=>(O g).c9
    have x0:∀ g:Gr (From (W1:C)) W3,g.W ⟨U,0,G⟩=E (ab a1 cs k1):=λg=>zB (g.fr.heap x3 (by unfold From;have:=r3.out;omega)) 0
    have n4:=zh m9;clear O d3 x3 m9;(repeat(first|apply zN rfl rfl rfl|apply zK rfl rfl rfl);intro d6 hK;go_big_quiet_op;go_big_quiet_on);clear e0 e1 e2 e3 e4 e5 e6 e7 e8 e9 x0;refine zAC rfl rfl ?_ ?_
    focus
     go_wp2_with fail;apply (r8 W3 n4).mono;rintro e Wc ⟨rfl,d0⟩;go_wp2_with fail;apply zm d0;have h0:=zh (n4.step d0 zi);have k0:∀ W,(∃ g:Gr (From (W1:C)) Wc,W=g.W)->(bu 120 (.map (E mb)) (af #[P,xo]) f).run am W=.ok (af #[y.q,y.o,y.c,y.r]) W:=λW hW=>by
      obtain⟨g,rfl⟩:=hW;have:=((y4 _ h0).fr g.fr (by unfold From;have:=r3.out;omega)).look (zDf g.W) ca m8.1 m8.2;rw[this,HY.1]
     apply zN rfl rfl rfl;intro d6 hK;refine zB5 rfl _ _ 120 rfl (.map (E mb)) (af #[P,xo]) _ rfl rfl k0 ?_
     go_frame
     go_big_quiet_on;clear k0;clear d0;apply zH rfl;obtain⟨Wa,l0,l4,qa⟩:=zy Wc (ae #[(),(),(),ap R 0] 94);go_wp2_with fail;apply zp;rw[<-l0];clear l0;have l5:H (Fr No W1 Wa):=h0.step l4 zi;have b0:H ((W1:C)<=(Wc:C)):=h0.size;have qz:=qa;clear l4 qa;obtain⟨a9,hB⟩:=ε (Wc:C)
     rw[<-hB]at qz b0 ⊢;clear hB;obtain⟨z0,z1,z2,z3⟩:=cl4 qz;obtain⟨f0,f1,f2,f3⟩:=fl4 qz;have h4:=zh (set4 qz rfl (ax y.q) (ax y.o) (ax y.c) (ap R y.r));clear qz;apply zH rfl;go_wp2_with fail;refine ba ⟨h4.2.mono (λb _ h=>by unfold Is at h;unfold From;have:=b0.out;omega),?_⟩;apply zW;obtain⟨w5,d8⟩:=ε ((((Wa.setCell ⟨a9,0,G⟩ (ax y.q)).setCell ⟨a9,1,G⟩ (ax y.o)).setCell ⟨a9,2,G⟩ (ax y.c)).setCell ⟨a9,3,G⟩ (ap R y.r))
     rw[<-d8];have b6:=h4.out;rw[<-d8]at b6;have d9:H (Fr No W1 w5):=l5.step b6.2 (λb I h=>by unfold Is at h;have:=b0.out;omega);have y8:=zh b6.1;have z4:=b0;clear d8 h4 b6 z0 z1 z2 z3 f0 f1 f2 f3 l5 b0
    rotate_left 1
    focus
     obtain⟨Wa,l0,l4,qa⟩:=zy W3 (ae #[(),(),(),ap R 0] 94);go_wp2_with fail;apply zp;rw[<-l0];clear l0;have l6:=zh (n4.step l4 zi);clear l4;apply zH rfl;go_wp2_with fail;apply (r8 Wa l6).mono;rintro e Wc ⟨rfl,d0⟩;go_wp2_with fail;apply zm d0;have qb:=d0.heap qa id;clear qa;have h0:=zh (l6.step d0 zi);have k0:∀ W,(∃ g:Gr (From (W1:C)) Wc,W=g.W)->(bu 120 (.map (E mb)) (af #[P,xo]) f).run am W=.ok (af #[y.q,y.o,y.c,y.r]) W:=λW hW=>by
      obtain⟨g,rfl⟩:=hW;have:=((y4 _ h0).fr g.fr (by unfold From;have:=r3.out;omega)).look (zDf g.W) ca m8.1 m8.2;rw[this,HY.1]
     apply zN rfl rfl rfl;intro d6 hK;refine zB5 rfl _ _ 120 rfl (.map (E mb)) (af #[P,xo]) _ rfl rfl k0 ?_
     go_frame
     go_big_quiet_on;clear k0;clear d0;have l5:H (Fr No W1 Wc):=h0.out;have b0:H ((W1:C)<=(W3:C)):=n4.size;have qz:=qb;clear qb;obtain⟨a9,hB⟩:=ε (W3:C)
     rw[<-hB]at qz b0 ⊢;clear hB;obtain⟨z0,z1,z2,z3⟩:=cl4 qz;obtain⟨f0,f1,f2,f3⟩:=fl4 qz;have h4:=zh (set4 qz rfl (ax y.q) (ax y.o) (ax y.c) (ap R y.r));clear qz;apply zH rfl;go_wp2_with fail;refine ba ⟨h4.2.mono (λb _ h=>by unfold Is at h;unfold From;have:=b0.out;omega),?_⟩;apply zW;obtain⟨w5,d8⟩:=ε ((((Wc.setCell ⟨a9,0,G⟩ (ax y.q)).setCell ⟨a9,1,G⟩ (ax y.o)).setCell ⟨a9,2,G⟩ (ax y.c)).setCell ⟨a9,3,G⟩ (ap R y.r))
     rw[<-d8];have b6:=h4.out;rw[<-d8]at b6;have d9:H (Fr No W1 w5):=l5.step b6.2 (λb I h=>by unfold Is at h;have:=b0.out;omega);have y8:=zh b6.1;have z4:=b0;clear d8 h4 b6 z0 z1 z2 z3 f0 f1 f2 f3 l5 b0
    all_goals (
     go_wp2;go_meet;exact⟨a9,rfl,⟨y8,z4⟩,d9⟩
     )
   case rest=>
    obtain⟨a9,rfl,HB,d9⟩:=hcut;obtain⟨W5,rfl⟩:=ε wc
    go_upto_region 4 with(fail)
    go_cut [43] (λv wx=>v=.bool (!VB||(tx.toList==y.c.toList))/\H (Fr No W5 wx));case first=>
     refine zO No [(0,f),(1,f),(2,f),(3,f),(4,f),(5,f),(6,ah),(7,f),(8,f),(9,f),(11,f),(12,f),(10,ah),(13,f),(14,f)] (λw6 l7=>?_);have d3:=l7.heap (d9.heap D1 id) id;have x3:=l7.heap (d9.heap j8 id) id;have e0:∀ g:Gr No w6,g.W ⟨wr,0,G⟩=E (ap R d.index):=λg=>zB (g.fr.heap d3 id) 0
     have x0:∀ g:Gr No w6,g.W ⟨U,0,G⟩=E (ab a1 cs k1):=λg=>zB (g.fr.heap x3 id) 0
     have z5:=zh (d9.step l7 zi);have F6:=zh l7;clear d3 x3 l7;(repeat(first|apply zR rfl rfl rfl|apply zS rfl rfl rfl);intro d6 hK;go_big_quiet_op;go_big_quiet_on);clear e0 x0;apply zu rfl;go_wp2_with fail;apply (F5 w6 z5).mono;rintro e w7 ⟨rfl,b8⟩;have z6:=zh (z5.step b8 zi);have r9:=zh (F6.step b8 zi);go_wp2_with fail;apply zm b8;clear b8;cases VB
     .repeat((first|apply zR rfl rfl rfl|apply zS rfl rfl rfl);intro d6 hK;go_big_quiet_op;go_big_quiet_on)
      apply zu rfl;go_wp2_with fail;apply zq;(repeat(first|apply zR rfl rfl rfl|apply zS rfl rfl rfl);intro d6 hK;go_big_quiet_op;go_big_quiet_on);apply zY;go_wp2;go_meet;exact⟨rfl,r9⟩
     .have b7:=r9.heap HB.1 id;have d7:=z6.heap D1 id;have z2:∀ g:Gr No w7,g.W ⟨a9,2,G⟩=E (ax y.c):=λg=>zB (g.fr.heap b7 id) 2
      have O:∀ g:Gr No w7,DevB g.W (wr:C) d:=λg=>DevB.of (g.fr.heap d7 id)
      have e0:=λg=>(O g).c0
      have e1:=λg=>(O g).c1
      have e2:=λg=>(O g).c2
      have e3:=λg=>(O g).c3
      have e4:=λg=>(O g).c4
      have e5:=λg=>(O g).c5
      have e6:=λg=>(O g).c6
      have e7:=λg=>(O g).c7
      have e8:=λg=>(O g).c8
      have e9:=λg=>(O g).c9
      clear O;(repeat(first|apply zR rfl rfl rfl|apply zS rfl rfl rfl);intro d6 hK;go_big_quiet_op;go_big_quiet_on);clear z2 e0 e1 e2 e3 e4 e5 e6 e7 e8 e9;apply zu rfl;go_wp2_with fail;apply (y6 w7 z6).mono;rintro e w8 ⟨rfl,s0⟩;have F7:=zh (r9.step s0 zi);go_wp2_with fail;apply zm s0;clear s0;(repeat(first|apply zR rfl rfl rfl|apply zS rfl rfl rfl);intro d6 hK;go_big_quiet_op;go_big_quiet_on);apply zY;go_wp2;go_meet;exact⟨by simp,F7⟩
    case rest=>
     obtain⟨rfl,z7⟩:=hcut;obtain⟨W6,rfl⟩:=ε wc
     have HX:=zh (d9.step z7 zi);have o6:H (setF M ds ct J (j+1)=if (VB&&!(tx.toList==y.c.toList))=ah then (updC (setF M ds ct J j).1 d.index y.c,(setF M ds ct J j).2++[⟨3,PO,ZD,zM,y.c,()⟩])else setF M ds ct J j):=by
      unfold H;rw[zDv A.2.2.2.2.2.2.2.1];unfold zAZ;obtain⟨_,h1,h2,h3,h4,h5,h6⟩:=HY.out;rw[h1,h2,h3,h4,h5,h6]
     rcases hc:(!VB||(tx.toList==y.c.toList))with _|_
     .have n5:VB=ah/\(tx.toList==y.c.toList)=false:=by
       revert hc;cases VB<;>cases(tx.toList==y.c.toList)<;>simp
      have g0:H (setF M ds ct J (j+1)=(updC (setF M ds ct J j).1 d.index y.c,(setF M ds ct J j).2++[⟨3,PO,ZD,zM,y.c,()⟩])):=by
       unfold H;rw[o6,br (by rw[n5.1,n5.2];rfl)]
      have j7:Sound d (cAtt y.c)/\y.c.size<=100000:=by
       obtain⟨_,h1,h2,h3,h4,h5,h6⟩:=HY.out;rw[h1,h2,h3];exact(A.2.2.2.2.2.2.1.2.2) (by rw[<-h4];exact n5.1)
      have g1:=zh j7;have F8:H (Atts W6 d.aa d.ac (cAtt tx)):=by
       have h:=m6.1.no HX (λ_=>id);rw[<-HY.2.2.2.2.2.2]at h;exact h
      have F9:H (d.an=(cAtt tx).length):=(by rw[HY.2.2.2.2.2.2];exact m6.2);have r5:=HX.heap D1 id;have r6:=z7.heap HB.1 id;clear n5 j7;have c9:W6 ⟨wr,9,G⟩=E (ab d.aa d.an d.ac):=zB r5 9;have z2:W6 ⟨a9,2,G⟩=E (ax y.c):=zB r6 2;have l8:=zPO d.aa d.ac tx y.c W6 F8 (by have:=g1.2;unfold ay;omega);obtain⟨n,n8⟩:=ε ((cAtt tx).length)
      rw[F9,<-n8]at c9;rw[<-n8]at l8;have L9:=zh n8;clear n8;go_wp2_with fail;apply l8.mono;rintro e w7 ⟨⟨a3,c3,rfl,z8,I0,o7⟩,b8⟩;have u5:=b8.heap r5 id;have u6:=b8.heap r6 id;have s6:=HX.size;have M0:=w9.out;obtain⟨x,hx⟩:∃ x:Dev,x={ d with aa:=a3,an:=(cAtt y.c).length,ac:=c3 }:=⟨_,rfl⟩
      have y9:=zD u5 9;have z9:w7 ⟨wr,9,G⟩=E (ab d.aa d.an d.ac):=zB u5 9;obtain⟨Y,n9⟩:=ε (w7.setCell ⟨wr,9,G⟩ (ab a3 (cAtt y.c).length c3))
      have f8:Fr (Is (wr:C)) w7 Y:=(by rw[n9];exact bg (au _ _) _);have v5:Y.heap[(wr:C)]?=E (ae x.vals 41):=(by rw[n9,hx];exact zE u5 9 _);have M1:(wr:C)<a9:=(by have:=HB.2;omega);have v6:=f8.heap u6 (λh=>by omega);have A0:=z8.fr f8 (λad e _ h=>by have:=o7 ad e;omega);have b9:=zh ((HX.step b8 zi).mono (T:=Is (wr:C)) zn |>.step f8 zi);have b2:=zg2 hx A0;have o0:=zg2 v5 v6;clear hx A0 z8 I0 o7 u5 u6 f8 l8 c9 z2 r5 r6 b8 v5 v6;go_upto_region 6 with(fail)
      rw[<-n9];clear n9 y9 z9;have d5:=a8.out;obtain⟨dn,j0,s1⟩:∃ dn,cs[j]?=E dn/\strip dn=strip d:=by
       have h:(cs.map strip)[j]?=E (strip d):=(by rw[A.2.1,bh,A.2.2.2.2.2.2.2.1];rfl);rw[bh]at h;cases hh:cs[j]? with
       | none=>rw[hh]at h;cases h
       | some z=>rw[hh]at h;exact⟨z,rfl,Option.some.inj h⟩
      have A1:U≠(wr:C):=(by omega);have A2:H (Tr Y V a1 k1 cs):=a8.foot b9 (λb I h=>by have:=j9.1 b I;omega);have s2:=zh (b9.heap j8 (λh=>A1 h));have F:x.index=dn.index/\x.parent=dn.parent/\x.name=dn.name/\x.orig=dn.orig/\x.sub=dn.sub/\x.drv=dn.drv/\x.ali=dn.ali/\x.kind=dn.kind/\x.num=dn.num:=by
       rw[b2.1];have h:=s1;obtain⟨i1,i2,i3,i4,i5,i6,i7,i8,i9,j1,j2,j3⟩:=dn;obtain⟨k1,k2,k3,k4,k5,k6,k7,k8,k9,l1,l2,l3⟩:=d;unfold strip at h;dsimp only at h;injection h with h1 h2 h3 h4 h5 h6 h7 h8 h9
       exact⟨h1.symm,h2.symm,h3.symm,h4.symm,h5.symm,h6.symm,h7.symm,h8.symm,h9.symm⟩
      have A3:=bi j0;have a4:=a8.el dn A3;have b5:strip x=strip d:=(by rw[b2.1];rfl);have A4:∀ b,b<(wr:C)->¬ Is (wr:C) b:=λb I h=>by omega
      have o1:CtO Y (cs.set j x) (updC (setF M ds ct J j).1 dn.index y.c):=CtO.set (AttOf.fr A.2.2.2.2.1 b9 (λz hz ad e=>A4 _ (j9.1 _ (.inr ⟨z,hz,ad,e,rfl⟩)))) a8.wf.ok j0 F.1 (by rw[b2.1];exact b2.2) (by rw[b2.1]);obtain⟨m,hm⟩:=r2.len;have J6:=r2.sz;have A5:=b9.cell hm (A4 _ (by have:=HA.2.1.sz;have:=g9.out.fr.size;show 0<(wr:C);omega));have s4:H (∀ W,Fr No Y W->az am 107 #[af #[ab a1 cs k1],af x.vals] W λe w'=>(∃ X Z u,e=.returned (.tuple #[af #[ab X (u:B Dev).length Z],ap R 0])/\TMk W w' (cs.set j x) X Z u)/\Fr No W w'):=λW hf=>by
       have I1:Sound x (cAtt y.c):=(by rw[b2.1];exact⟨g1.1.rng,g1.1.named,g1.1.same,g1.1.num,g1.1.attrs,g1.1.link⟩);have A6:cs.any (clP x)=false:=(by rw[<-A.2.2.2.2.2.2.1.2.1,<-zDI,A.2.1,b5,zDI]);exact(zIA a1 k1 V cs j dn x (cAtt y.c) m W (A2.out.no hf) (by have:=A.2.2.2.2.2.1;have:=HN.1;omega) j0 (by rw[F.1];exact zLb a8.wf.ok j0) ⟨F.2.1,F.2.2.2.1,F.2.2.2.2.2.2.2.1⟩ ⟨by rw[F.2.2.1];exact a4.sz.name,by rw[F.2.2.2.1];exact a4.sz.orig,by rw[F.2.2.2.2.1];exact a4.sz.sub,by rw[F.2.2.2.2.2.1];exact a4.sz.drv,by rw[F.2.2.2.2.2.2.1];exact a4.sz.ali⟩ (by rw[b2.1];exact b2.2.no hf (λ_=>id)) (zCv y.c) (by rw[b2.1]) (by rw[b2.1];exact A.2.2.2.2.2.2.1.1) (by rw[F.2.2.2.2.2.1];exact a4.drv) I1 A6 (hf.cell A5 id) (by have:=hf.size;have:=b9.size;show 0<_;omega)).mono λe w' h=>⟨h.1.tmk,h.2⟩
      have A7:H (∀ z∈cs.set j x,∃ l,Atts Y z.aa z.ac l/\z.an=l.length):=λz hz=>⟨_,(o1 z hz).1,(o1 z hz).2⟩
      have I2:=zh o1;have g2:=zg4 j0 s1 F b5;have I3:H (∀ z∈cs.set j x,Sized z/\z.drv=()):=λz hz=>by
       rcases ci hz with h|rfl
       .exact⟨(a8.el z h).sz,(a8.el z h).drv⟩
       .exact⟨⟨by rw[F.2.2.1];exact a4.sz.name,by rw[F.2.2.2.1];exact a4.sz.orig,by rw[F.2.2.2.2.1];exact a4.sz.sub,by rw[F.2.2.2.2.2.1];exact a4.sz.drv,by rw[F.2.2.2.2.2.2.1];exact a4.sz.ali⟩,by rw[F.2.2.2.2.2.1];exact a4.drv⟩
      unfold be at s4;have J7:=zC s2;have I4:=zC o0.1;clear A3 a4 b5 o1 hm A5 j0 s1 F d5;go_cut [7,8] (λp7 v8 wx=>∃ B' X Z u,p7=aj (E ⟨B',0,G⟩)/\v8=ap R 0/\H (wx.heap[B']?=E (ae #[ab X (bv u) Z] 48)/\TMk Y wx (cs.set j x) X Z u/\(Y:C)<=B')/\Fr No Y wx);case first=>
       refine zZ (λb=>(Y:C)<=b) (.q 0 (.q 1 (.q 2 (.q 3 (.q 4 (.m2 5 (.q 6 (.q 7 (.q 8 (.m1 9 (.m1 10 (.q 11 .fin)))))) 9 (.m1 5 (.q 6 (.q 7 (.q 8 (.m1 10 (.q 11 .fin)))))))))))) _ (λWB l9=>?_) zj;have b1:=l9.heap o0.1 id;have p1:=l9.heap s2 id;have I5:=l9.size;have t0:∀ g:Gr (λb=>(Y:C)<=b) WB,g.W ⟨U,0,G⟩=E (ab a1 cs k1):=λg=>zB (g.fr.heap p1 (λh=>by omega)) 0
       have O:∀ g:Gr (λb=>(Y:C)<=b) WB,DevB g.W (wr:C) x:=λg=>DevB.of (g.fr.heap b1 (λh=>by omega))
       have e0:=λg=>(O g).c0
       have e1:=λg=>(O g).c1
       have e2:=λg=>(O g).c2
       have e3:=λg=>(O g).c3
       have e4:=λg=>(O g).c4
       have e5:=λg=>(O g).c5
       have e6:=λg=>(O g).c6
       have e7:=λg=>(O g).c7
       have e8:=λg=>(O g).c8
       have e9:=λg=>(O g).c9
       have xB:=zh l9;clear O b1 p1 l9;(repeat(first|apply zN rfl rfl rfl|apply zK rfl rfl rfl);intro d6 hK;go_big_quiet_op;go_big_quiet_on);clear t0 e0 e1 e2 e3 e4 e5 e6 e7 e8 e9;refine zAC rfl rfl ?_ ?_
       focus
        have b3:=s4.out WB xB;go_wp2_with fail;apply b3.mono;rintro e wD ⟨⟨X,Z,u,rfl,hT⟩,o2⟩;have sD:=o2.size;have XD:H (Fr No Y wD):=xB.step o2 zi;have HT:=zh (hT.src xB A7);clear b3 hT;go_wp2_with fail;apply zm o2;(repeat(first|apply zN rfl rfl rfl|apply zK rfl rfl rfl);intro d6 hK;go_big_quiet_op;go_big_quiet_on);apply zH rfl;obtain⟨WC,m0,fC,qC⟩:=zy wD (ae #[ab G 0 0] 48);go_wp2_with fail;apply zp;rw[<-m0];clear m0;have HF:H (Fr No Y WC/\TMk Y WC (cs.set j x) X Z u/\(Y:C)<=(wD:C)):=⟨XD.step fC zi,HT.out.no fC,by omega⟩
        clear fC o2;generalize (wD:C)=B' at *;apply zH rfl;have y0:=zD qC 0;have z0:WC ⟨B',0,G⟩=E (ab G 0 0):=zB qC 0;have fB:Fr (Is B') WC (WC.setCell ⟨B',0,G⟩ (ab X u.length Z)):=bg (au _ _) _;have HR:H ((WC.setCell ⟨B',0,G⟩ (ab X u.length Z)).heap[B']?=E (ae #[ab X u.length Z] 48)/\TMk Y (WC.setCell ⟨B',0,G⟩ (ab X u.length Z)) (cs.set j x) X Z u/\(Y:C)<=B'):=⟨zE qC 0 _,HF.2.1.put fB qC (by decide) (by decide),HF.2.2⟩
        have HX:H (Fr No Y (WC.setCell ⟨B',0,G⟩ (ab X u.length Z))):=HF.1.step fB (λb I h=>by have:=HF.2.2;omega)
       rotate_left 1
       focus
        obtain⟨WC,m0,fC,qB⟩:=zy WB (ae #[ab G 0 0] 48);go_wp2_with fail;apply zp;rw[<-m0];clear m0;have xC:=zh (xB.step fC zi);have b3:=s4.out WC xC;apply zH rfl;go_wp2_with fail;apply b3.mono;rintro e wE ⟨⟨X,Z,u,rfl,hT⟩,o3⟩;have qC:=o3.heap qB id;have HF:H (Fr No Y wE/\TMk Y wE (cs.set j x) X Z u/\(Y:C)<=(WB:C)):=⟨xC.step o3 zi,hT.src xC A7,I5⟩
        clear b3 hT qB fC;go_wp2_with fail;apply zm o3;clear o3;(repeat(first|apply zN rfl rfl rfl|apply zK rfl rfl rfl);intro d6 hK;go_big_quiet_op;go_big_quiet_on);generalize (WB:C)=B' at *;apply zH rfl;have y0:=zD qC 0;have z0:wE ⟨B',0,G⟩=E (ab G 0 0):=zB qC 0;have fB:Fr (Is B') wE (wE.setCell ⟨B',0,G⟩ (ab X u.length Z)):=bg (au _ _) _;have HR:H ((wE.setCell ⟨B',0,G⟩ (ab X u.length Z)).heap[B']?=E (ae #[ab X u.length Z] 48)/\TMk Y (wE.setCell ⟨B',0,G⟩ (ab X u.length Z)) (cs.set j x) X Z u/\(Y:C)<=B'):=⟨zE qC 0 _,HF.2.1.put fB qC (by decide) (by decide),HF.2.2⟩
        have HX:H (Fr No Y (wE.setCell ⟨B',0,G⟩ (ab X u.length Z))):=HF.1.step fB (λb I h=>by have:=HF.2.2;omega)
       all_goals (
        have HB:H ((Y:C)<=B'):=HF.2.2;clear fB qC;go_wp2_with fail;refine ba ⟨Fr.setCell (au _ _) (λ_=>HB) _,?_⟩;(repeat(first|apply zN rfl rfl rfl|apply zK rfl rfl rfl);intro d6 hK;go_big_quiet_op;go_big_quiet_on);apply zW;go_wp2;go_meet;exact⟨B',X,Z,u,rfl,rfl,HR,HX⟩
        )
      case rest=>
       obtain⟨B',X,Z,u,rfl,rfl,s5,m3⟩:=hcut;obtain⟨W9,rfl⟩:=ε wc
       have s7:=zh (m3.heap s2 id);have D9:=m3.heap o0.1 id;have B9:=m3.heap o0.2 id;have I6:x.index=d.index:=(by rw[b2.1]);have I7:=zh D9;have I8:=zh B9;have m4:=zh m3;have I9:H (∀ W,Fr No W9 W->az am 105 #[af #[ab a1 cs k1],d.index] W λe w'=>e=.returned (.tuple #[PO,.bool ah])/\Fr No W w'):=λW hW=>by
        have hT:=(A2.out.no m4).no hW;have e0:dn.index=d.index:=(by have h:=bp bm g2.2.1;exact h);have:=zA1 a1 k1 cs d.index W hT.dv hT.wf.ok (by have:=A.2.2.2.2.2.1;have:=HN.1;omega) (by rw[<-e0];exact hT.wf.ok.iwf (bi g2.1));have e1:(((look cs d.index).map λ_=>pathOf (origin cs d.index)).getD ⟨#[]⟩)=PO:=by
         have h:=HY.2.2.2.2.2.1;rw[h];show plc cs d.index=_
         rw[<-zAI,A.2.1,zAI]
        have e2:(look cs d.index).isSome=true:=(by rw[<-e0,zo hT.wf.ok.nd (bi g2.1)];rfl);rw[e1,e2]at this;exact this
       have M2:=b9.size;clear D9 B9 m3;go_upto_region 8 with(fail)
       refine zO No [(0,f),(1,f),(2,f),(3,f),(4,f),(5,f),(6,ah),(7,f),(8,f),(9,f),(10,f),(11,f)] (λwa o4=>?_);have A8:=o4.heap s7 id;have da:=o4.heap I7 id;have x0:∀ g:Gr No wa,g.W ⟨U,0,G⟩=E (ab a1 cs k1):=λg=>zB (g.fr.heap A8 id) 0
       have e0:∀ g:Gr No wa,g.W ⟨wr,0,G⟩=E (ap R d.index):=λg=>by rw[<-I6];exact zB (g.fr.heap da id) 0
       have l6:=zh o4;clear A8 da o4;(repeat(first|apply zR rfl rfl rfl|apply zS rfl rfl rfl);intro d6 hK;go_big_quiet_op;go_big_quiet_on);clear e0 x0;apply zu rfl;go_wp2_with fail;apply (I9 wa l6).mono;rintro e wb ⟨rfl,s8⟩;have t8:=zh (l6.step s8 zi);go_wp2_with fail;apply zm s8;clear s8;(repeat(first|apply zR rfl rfl rfl|apply zS rfl rfl rfl);intro d6 hK;go_big_quiet_op;go_big_quiet_on);apply zY;have J0:=zh (zG A.2.2.1 ((b9.step m4 zn).step t8 zn) (λb I h=>by have:=j9.2 b I;omega));have J1:=zh w2.2;have M4:=g9.out.fr.size;have s9:=m4.size;have sb:=t8.size;go_upto_region 9 with(fail)
       refine zIP 13 (λb=>(ai ao no co).ownBlock=E b) (.q 0 (.q 1 (.q 2 (.q 3 (.q 4 (.q 5 (.q 6 (.q 7 (.q 8 (.m1 9 (.m1 10 (.m1 11 (.q 12 (.m1 13 .fin)))))))))))))) _ (λWK t9=>?_) zj;have o5:=zh (t8.step t9 zi);have k7:=o5.heap s7 id;have g5:=zG J0 t9 (λ_ _=>id);clear t9;have n7:=zJ g5 k7 (by decide);have g3:=o5.heap I8 id;have n3:=zJ g5 g3 (by decide);have t7:∀ g:Gr (λb=>(ai ao no co).ownBlock=E b) WK,g.W ⟨U,1,G⟩=E (ab ao no co):=λg=>zB (g.fr.heap k7 n7) 1
       have t3:∀ g:Gr (λb=>(ai ao no co).ownBlock=E b) WK,g.W ⟨a9,2,G⟩=E (ax y.c):=λg=>zB (g.fr.heap g3 n3) 2
       have s3:=o5.size;clear g3 n3;(repeat apply tx_q rfl rfl rfl;intro d6 hK;go_big_quiet_op;go_big_quiet_on);clear t7 t3;have al:=(au No WK).alloc (ae (ocs 3 PO ZD zM y.c) 43);have o8:=zG g5 al (λ_ _=>id);have k5:=al.heap k7 id;have A9:=zh al;clear g5 k7 al;apply zBF rfl;go_wp2_with fail;refine ba ⟨λ_=>A9.mono zn,?_⟩;apply zBF rfl;go_wp2_with (at_builtin;refine cn _ rfl _ _ 87 rfl rb 43 i0 (af #[ap R 0,ak,ap R 0,ap R 0,ak,ak,ak,ak,ak,ap R 0,ap R 0,ab G 0 0,ak,ak]) 14 192 cm D8 p4 F0 F1 rfl (by decide) _ _ _ rfl o8 ⟨WK,0,G⟩ 1 1 (ocs 3 PO ZD zM y.c).toList rfl rfl (zk _ (ocs 3 PO ZD zM y.c) _ rfl) (zC8 _ _ _ _ _) (by unfold ay;omega) (by omega) (by have:=J1.out;rw[cd];omega) ?_;intro v' w6 g6 D2 _ D3;obtain⟨d2,d4,rfl⟩:=zI g6)
       have gf:Fr (λb=>(ai ao no co).ownBlock=E b) (WK.alloc (ae (ocs 3 PO ZD zM y.c) 43)) w6:=Fr.of_grown D2;apply zf gf;have k6:=gf.heap k5 n7;have n6:=zJ g6 k6 (by decide);have t7:w6 ⟨U,1,G⟩=E (ab ao no co):=zB k6 1;have f7:w6.frozen? ⟨U,1,G⟩=false:=zD k6 1;have x8:Fr (Is U) w6 (w6.setCell ⟨U,1,G⟩ (ab d2 (no+1) d4)):=bg (au _ _) _;have k8:(w6.setCell ⟨U,1,G⟩ (ab d2 (no+1) d4)).heap[U]?=E (ae #[ab a1 cs k1,ab d2 (no+1) d4] 128):=zE k6 1 (ab d2 (no+1) d4);have o9:=zG g6 x8 (λb I h=>n6 (by unfold Is at h;rw[<-h];exact I));have ff:Fr (λb=>b=U\/(ai ao no co).ownBlock=E b) W9 (w6.setCell ⟨U,1,G⟩ (ab d2 (no+1) d4)):=(((o5.step A9 zi).mono zn).step gf (λb _ h=>.inr h)).step x8 (λb _ h=>.inl h);have D4:H (∀ b,(ai d2 (no+1) d4).ownBlock=E b->S b\/(w:C)<=b):=λb I=>by
        rcases D3 with h|h
        .rw[h]at I;exact p9 b I
        .rw[h]at I;cases I;rw[cd];right;omega
       have HR:=zg3 k8 o9 ff;obtain⟨WZ,v0⟩:=ε (w6.setCell ⟨U,1,G⟩ (ab d2 (no+1) d4))
       rw[<-v0]at HR;clear o8 g6 D2 gf k5 k6 k8 x8 ff n6 n7 D3 o9;apply zBF rfl;go_wp2_with fail;refine ba ⟨λ_=>au _ _,?_⟩;(repeat apply tx_q rfl rfl rfl;intro d6 hK;go_big_quiet_op;go_big_quiet_on);apply zBF rfl;go_wp2_with fail;refine ba ⟨λh=>(h rfl).elim,?_⟩;apply zGP;rw[<-v0];clear v0 t7 f7;have v1:∀ b,(ai ao no co).ownBlock=E b->b<(wr:C):=j9.2;have J8:=s5.2.2;have J9:(wr:C)<(Y:C):=I4;have D5:¬ (B'=U\/(ai ao no co).ownBlock=E B'):=λh=>h.elim (λh=>by omega) (λh=>by have:=v1 _ h;omega)
       have bz:=HR.2.2.heap s5.1 D5;have z0:WZ ⟨B',0,G⟩=E (ab X u.length Z):=zB bz 0;have y0:=zD HR.1 0;have y1:WZ ⟨U,0,G⟩=E (ab a1 cs k1):=zB HR.1 0;have xF:Fr (Is U) WZ (WZ.setCell ⟨U,0,G⟩ (ab X u.length Z)):=bg (au _ _) _;have HQ:=zg2 (zE HR.1 0 (ab X u.length Z)) xF;clear bz xF;go_wp2;go_roundw;case rel=>
        refine⟨j+1,by omega,by go_num,?_⟩;have v2:=zG A.2.2.1 (b9.step m4 zn) (λb I h=>by have:=j9.2 b I;omega);have J2:TMk Y WZ (cs.set j x) X Z u:=s5.2.1.fr HR.2.2 (λb I M5 T hc=>by
         rcases I with rfl|I
         .rw[s7.out]at hc;cases hc;exact⟨by decide,by decide⟩
         .by_cases hT:T=43;·subst hT;exact⟨by decide,by decide⟩
          .exact absurd I (zJ v2 hc hT))
        have g4:=J2.put HQ.2 HR.1 (by decide) (by decide);have p0:u.map strip=cs.map strip:=g4.cop.strip.trans (zCi g2.1 (g2.2.2.2.trans g2.2.1.symm));have J3:Tr _ V X Z u:=g4.cop.tr I3 g4.dv (TreeWf.ofStrip a8.wf p0) g4.fresh (by have:=w2.1;omega);have J4:TrT (WZ.setCell ⟨U,0,G⟩ (ab X u.length Z)) X u:=λb I=>by
         rcases I with⟨ad,e,rfl⟩|⟨z,hz,ad,e,rfl⟩
         .obtain⟨q,hq⟩:=g4.bt ad e;exact⟨q,_,hq,.inl rfl⟩
         .obtain⟨z0,_,p4⟩:=g4.cop.mem hz;obtain⟨q,hq⟩:=p4.typ ad e;exact⟨q,_,hq,.inr rfl⟩
        have ei:dn.index=d.index:=(by have h:=bp bm g2.2.1;exact h);have D6:CtO _ u (updC (setF M ds ct J j).1 d.index y.c):=ei▸I2.out.cop g4.cop;have v3:=zG HR.2.1 HQ.2 (λb I h=>zJ HR.2.1 HR.1 (by decide) (by unfold Is at h;rw[<-h];exact I));refine⟨⟨X,Z,u,d2,no+1,d4,by rw[g0.out,bs];have:=A.1;simp;omega,HQ.1,J3,p0.trans A.2.1,by rw[g0.out,zFk];exact v3,J4,by rw[g0.out];exact D6,D4.out⟩,?_⟩;refine(((A.2.2.2.2.2.2.2.2.step b9 (λb I h=>by omega)).step m4 zn).step HR.2.2 (λb I h=>?_)).step HQ.2 (λb I h=>?_)
        .rw[a2.2];rcases h with h|h
         .exact .inl h
         .rcases p9.out b h with h'|h'
          .rw[a2.2]at h';exact h'
          .omega
        .rw[a2.2];exact .inl h
       case measure=>simp[bd];omega
     .have g0:H (setF M ds ct J (j+1)=setF M ds ct J j):=by
       unfold H;rw[o6,bq];revert hc;cases VB<;>cases(tx.toList==y.c.toList)<;>simp
      have J5:H (SetI U rb V w M ds ct J S (j+1) W6):=by
       refine⟨⟨a1,k1,cs,ao,no,co,by rw[g0];exact A.1,HX.heap j8 id,a8.out.no HX,A.2.1,by rw[g0];exact zG A.2.2.1 HX (λ_ _=>id),A.2.2.2.1.fr HX (λ_ _=>id),by rw[g0];exact A.2.2.2.2.1.no HX,p9⟩,A.2.2.2.2.2.2.2.2.step HX zn⟩
      go_wp2;go_roundw;case rel=>exact⟨j+1,by omega,by go_num,J5⟩
      case measure=>simp[bd];omega
  .obtain rfl:j=(ds:C):=by omega
   have w4:¬ ((ds:C):a0)<(ds:C):=(by omega);go_wp2;go_end0;exact⟨rfl,g9⟩
end Go.Proofs.YtjoipgjdpnjjiaaGreatDoor
