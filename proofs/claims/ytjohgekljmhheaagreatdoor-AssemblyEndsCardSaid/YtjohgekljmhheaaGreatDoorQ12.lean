import Derived.Test.YtjohgekljmhheaaGreatDoorQ11
namespace Go.Proofs.YtjohgekljmhheaaGreatDoor
open Go.RowKit Go.Maps Go.Shelf
set_option linter.unusedVariables false
set_option maxRecDepth 100000
set_option maxHeartbeats 8000000
open And renaming intro->au
open Dev renaming vals->bg,index->bn
open Fr renaming refl->av,setAt->bh
open Go renaming undef->R,World->ar,Addr->ax,maxLen->az,Calls->ba,Value->bd,wpList_append_own_at->cp
open Go.Instr renaming lookup->bv
open Go.Lit renaming int->bp
open Go.Proofs renaming intOf->be
open Go.Proofs.Tryz renaming prog->ap,underlying206->bm,underlying83->cb,underlying3->cm,underlying79->cn
open Go.RowKit renaming Hid->H
open Go.Value renaming slice->aj
open Go.World renaming size_alloc->ce
open IntKind renaming i64->a0
open Obj renaming cells->af
open OnlyN renaming mk->bc
open Value renaming slice->ae,agg->ag,pointer->ak,int->aq,string->ay
open _root_ renaming Nat->C,List->B,Int->ab,ByteArray->ah,Option->aw,congrArg->bq,if_neg->br,if_pos->bs
open _root_.Bool renaming false->f,true->ai
open _root_.ByteArray renaming empty->am
open _root_.List renaming getElem?_map->bi,mem_of_getElem?->bj,length_cons->bo,length_append->bu,length->bw,length_map->bx,length_nil->ca,foldl_append->cc,take_add_one->cd,foldl_cons->cf,getElem?_of_mem->cg,getElem?_set->ch,length_take->ci,mem_or_eq_of_mem_set->cj,take_length->ck
open _root_.List.Pairwise renaming map->cq
open _root_.Nat renaming le_trans->cl
open _root_.Option renaming some->E,none->G
variable{S V:C->Prop}{w w' F z W:ar}{ds cs:B Dev}{o k v O U u I J n b:C}{ct:ab->ah}{x d:Dev}{a N:aw ax}{Q:Exit->Act->ar->Prop}{M:B Vir}{pre:B (ab×Dev)}
theorem zCs (c:ah):getP (cAtt c) zM=c:=by
 unfold cAtt;cases hc:c.toList.isEmpty with
 | true=>
  rw[bs rfl];rw[ByteArray.toList_eq]at hc;have o:c.data.toList=[]:=by simpa using hc
  exact(ByteArray.ext (Array.toList_inj.1 o):c=()).symm
 | false=>
  have h:isKey zM (zM,c)=true:=by simp[isKey]
  rw[br (by simp)];unfold getP;rw[List.find?_cons,h];rfl
def CtO (w:ar)(ds:B Dev)(ct:ab->ah):Prop:=AttOf w ds λi=>cAtt (ct i)
def updC (ct:ab->ah)(n:ab)(v:ah):ab->ah:=λi=>if i=n then v else ct i
theorem AttOf.fr {o:ab->B (ah×ah)}(h:AttOf w ds o)(y:Fr S w w')(z:∀ d∈ds,∀ u,d.aa=E u->¬ S u.block):AttOf w' ds o:=λd v=>⟨(h d v).1.fr y (λu e _=>z d v u e),(h d v).2⟩
theorem CtO.set (h:CtO w ds ct)(Z:TreeOk ds){o:Dev}(N:ds[k]?=E o)(hx:x.index=o.index){v:ah}(hA:Atts w x.aa x.ac (cAtt v))(A:x.an=(cAtt v).length):CtO w (ds.set k x) (updC ct o.index v):=by
 have F:=(List.getElem?_eq_some_iff.1 N).1;intro y hy;obtain⟨i,u⟩:=cg hy;rw[ch]at u;by_cases e:k=i
 .rw[bs e]at u;split at u
  .cases u;have z:(λi=>cAtt (updC ct o.index v i)) x.index=cAtt v:=(by dsimp only;unfold updC;rw[bs hx]);rw[z];exact⟨hA,A⟩
  .exact absurd F (by assumption)
 .rw[br e]at u;have I:y.index≠o.index:=λO=>by
   have h1:(ds.map bn)[i]?=E y.index:=(by rw[bi,u];rfl);have h2:(ds.map bn)[k]?=E o.index:=(by rw[bi,N];rfl);obtain⟨U,z⟩:=List.getElem?_eq_some_iff.1 h1;obtain⟨V,X⟩:=List.getElem?_eq_some_iff.1 h2;have Y:=List.pairwise_iff_getElem.1 Z.nd;rcases Nat.lt_or_gt_of_ne e with J|J
   .exact Y k i V U J (by rw[z,X,O])
   .exact Y i k U V J (by rw[z,X,O])
  have z:(λi=>cAtt (updC ct o.index v i)) y.index=cAtt (ct y.index):=by dsimp only;unfold updC;rw[br I]
  rw[z];exact h y (bj u)
theorem KSt.emit {F:C}{y:aw ax}{u z:C}{I:ab}{V:B bd}(h:KSt w F o a v ds N O U I)(Y:Fr (λb=>b=F\/(aj N O U).ownBlock=E b) w w')
  (Z:w'.heap[F]?=E (af (kcs a (ds:C) v y u z I) 59)) (ho:w'.ownsRow o 143 5 (ae y u z) u V):KSt w' F o a v ds y u z I:=by
 obtain⟨a2,hx⟩:=h.own;obtain⟨g1,g2,g3⟩:=Tr.typ h.tr h.ta h.te Y (λb cs T A J=>by
  rcases A with rfl|A
  .rw[h.blk]at J;cases J;exact⟨by decide,by decide⟩
  .by_cases X:T=143;·subst X;exact⟨by decide,by decide⟩
   .exact absurd A (zK hx J X))
 exact⟨Z,g1,g2,g3,⟨V,ho⟩,h.nm⟩
theorem KSt.tmk {w5:ar}{A:B Dev}{V:ab}{X:aw ax}{Y:C}{u:B Dev}(h:KSt w I o a J ds N O U V)(hf:Fr (Is I) w F)(hb:F.heap[I]?=E (af (kcs X (u:C) Y N O U V) 59))(v:TMk w5 F A X Y u)(h5:o<=(w5:C))
  (Z:∀ d∈A,Sized d/\d.drv=()/\d.name.size<=1000) (a2:TreeWf u):KSt F I o X Y u N O U V:=by
 obtain⟨xs,hx⟩:=h.own;refine⟨hb,v.cop.tr (λd z=>⟨(Z d z).1,(Z d z).2.1⟩) v.dv a2 v.fresh h5,v.bt,λd z=>?_,⟨xs,zG hx hf (λb a3 e=>?_)⟩,v.cop.names λd z=>(Z d z).2.2⟩
 .obtain⟨y,_,hy⟩:=v.cop.mem z;exact hy.typ
 .unfold Is at e;subst e;exact zK hx h.blk (by decide) a3
theorem TreeWf.ofStrip {o:B Dev}(h:TreeWf ds)(e:o.map strip=ds.map strip):TreeWf o:=by
 have u:TreeOk o:=TreeOk.map.1 (e▸TreeOk.map.2 h.ok);have O:∀ n,origin o n=origin ds n:=λn=>by rw[<-zDE,e,zDE]
 have U:∀ d∈o,∃ y∈ds,y.index=d.index:=λd v=>by
  have F:strip d∈ds.map strip:=e▸List.mem_map_of_mem v;obtain⟨y,A,V⟩:=List.mem_map.1 F;exact⟨y,A,by have N:=bq bn V;exact N⟩
 refine⟨u,λd v Y I J=>?_,λd v=>?_⟩
 .obtain⟨y,F,A⟩:=U d v;obtain⟨z,V,N⟩:=U Y I;rw[O,O,<-A,<-N]at J;have Z:=h.uo y F z V J;have X:=zx u.nd v;have h7:=zx u.nd I;rw[<-A,Z,N,h7]at X;exact(Option.some.inj X).symm
 .obtain⟨y,F,A⟩:=U d v;rw[O,<-A];exact h.dp y F
theorem zCn {o:Dev}(h:ds[k]?=E o)(e:strip x=strip o):(ds.set k x).map strip=ds.map strip:=by
 rw[List.map_set,e];apply List.ext_getElem?;intro i;rw[ch];split
 .rename_i u;subst u;split;·rw[bi,h];rfl
  .rw[bi,h];rename_i v;exact absurd (by simpa using (List.getElem?_eq_some_iff.1 h).1) v
 .rfl
theorem zQs (kb u:C)(a:aw ax)(d6:C)(ds:B Dev)(ev:aw ax)(en ec:C)(ix kk:ab)(ct:ab->ah)(k:C)(d0 I:ah)(x0 v d:Dev)(m:ab)(w:ar)(hK:KSt w kb u a d6 ds ev en ec ix)(hC:CtO w ds ct)(h7:en<=60000000)(hn:(ds:C)<=256)(hb:u<=(w:C))(hk:ds[k]?=E v)(e5:fidx (λy=>y.index==v.index) ds=(k:ab))
  (hd:d={ v with aa:=d.aa,ac:=d.ac }) (e6:Atts w d.aa d.ac (cAtt (ct v.index))) (e7:v.kind=2) (d1:Sound v (cAtt I)) (a7:ds.any (clP v)=f) (hv:I.size<=100000) (hm:w ⟨0,0,G⟩=E (.int a0 m)) (h0:0<(w:C)) (h8:0<kb):
  ba ap 79 #[ak (E ⟨kb,0,G⟩),ag (ocs kk d0 x0 zM I),ag d.vals] w λe w'=>e=.returned (.int a0 0)/\
   (∃ a' c' z d7 e8 d8,KSt w' kb u a' c' z d7 e8 d8 ix/\z.map strip=ds.map strip/\CtO w' z (updC ct v.index I)/\e8<=en+1)/\KFr kb (.slice ev en ec) w w':=by
 obtain⟨W0,d9,e9,b4,b5⟩:=zw w (af (ocs kk d0 x0 zM I) 72) (af d.vals 48);have h9:=zC hK.blk;have s0:=zC b5;have J:=bj hk;have d2:d.an=(cAtt (ct v.index)).length:=by rw[hd];exact(hC v J).2
 have K1:=zh (zAU zM W0 (by decide));have a8:isName zM=true:=by kernel_rfl
 have HK:=zh hK;have HC:=zh hC;have HA:=zg2 e6 d2;have O:=zg6 hk e5 hd e7 d1 a7;have HM:=zh hm;have HV:=zh hv;obtain⟨o0,o1,o2,o3,o4,o5,o6,o7,o8,o9,U,V,X,Y⟩:=OpB.of b4;clear hK hC e6 d2 hk e5 e7 d1 a7 hm hv J hd;unfold ocs bg at d9 ⊢;go_enter Tryz.func79,Tryz.ntmps79;go_upto_region 1 with(fail)
 rw[<-d9];clear d9;rw[a8]at K1;go_wp2_with fail;apply K1.mono;rintro e w1 ⟨rfl,a9⟩;have x1:Fr No w w1:=e9.step a9 zi;have p4:=a9.heap b4 id;have p5:=a9.heap b5 id;clear o0 o1 o2 o3 o4 o5 o6 o7 o8 o9 U V X Y b4 b5 a9 e9;obtain⟨o0,o1,o2,o3,o4,o5,o6,o7,o8,o9,U,V,X,Y⟩:=OpB.of p4;have c9:w1 ⟨(w:C)+1,9,G⟩=E (.slice d.aa d.an d.ac):=zB p5 9;have a2:=zPV d.aa d.ac (cAtt (ct v.index)) zM w1 (HA.1.no x1 (λ_=>id));rw[zCs]at a2;have A:=zPS d.aa d.ac (ct v.index) I w1;rw[HA.2]at c9;obtain⟨N,hN⟩:=ε ((cAtt (ct v.index)).length)
 rw[<-hN]at c9 a2 A;have HN:=zh hN;clear hN A;go_wp2_with fail;apply a2.mono;rintro e w2 ⟨⟨bf,rfl⟩,b0⟩;have x2:Fr No w w2:=x1.step b0 zi;have r4:=b0.heap p4 id;have r5:=b0.heap p5 id;clear o0 o1 o2 o3 o4 o5 o6 o7 o8 o9 U V X Y p4 p5 b0 c9 a2;obtain⟨o0,o1,o2,o3,o4,o5,o6,o7,o8,o9,U,V,X,Y⟩:=OpB.of r4;have c9:w2 ⟨(w:C)+1,9,G⟩=E (.slice d.aa d.an d.ac):=zB r5 9;rw[HA.2,<-HN]at c9;have A:=zPS d.aa d.ac (ct v.index) I w2 (HA.1.no x2 (λ_=>id)) (by have:=HV.out;unfold az;omega);rw[<-HN]at A;go_wp2_with fail;apply A.mono;rintro e w3 ⟨⟨a3,c3,rfl,g0,g9,g1⟩,b1⟩;have x3:Fr No w w3:=x2.step b1 zi;have u4:=b1.heap r4 id;have u5:=b1.heap r5 id;have s2:=x2.size;have i0:=zC r5;obtain⟨x,hx⟩:∃ x:Dev,x={ d with aa:=a3,an:=(cAtt I).length,ac:=c3 }:=⟨_,rfl⟩
 clear o0 o1 o2 o3 o4 o5 o6 o7 o8 o9 U V X Y r4 r5 b1 c9 A;have y9:=zD u5 9;have z9:w3 ⟨(w:C)+1,9,G⟩=E (.slice d.aa d.an d.ac):=zB u5 9;obtain⟨W4,b2⟩:=ε (w3.setCell ⟨(w:C)+1,9,G⟩ (.slice a3 (cAtt I).length c3))
 have f4:Fr (Is ((w:C)+1)) w3 W4:=by rw[b2];exact bh (av _ _) _
 have v5:W4.heap[(w:C)+1]?=E (af x.vals 48):=by rw[b2,hx];exact zE u5 9 _
 have v4:=f4.heap u4 (λh=>by omega);have x4:Fr No w W4:=x3.step f4 (λb hb h=>by omega);have g2:=g0.fr f4 (λad e _ h=>by have:=g1 ad e;omega);have HX:=zg3 hx g2 x4;have HU:=zg2 v4 v5;clear hx g2 g0 g9 u4 u5 f4;go_upto_region 5 with(fail)
 rw[<-b2];clear b2 y9 z9;have o:x={ v with aa:=a3,an:=(cAtt I).length,ac:=c3 }:=by rw[HX.1,O.2.2.1]
 have e0:strip x=strip v:=by rw[o];rfl
 have h1:=zh (zCn O.1 e0);have J:=bj O.1;have F:=HK.tr.el v J;have b3:CtO W4 (ds.set k x) (updC ct v.index I):=CtO.set (HC.out.no HX.2.2) HK.tr.wf.ok O.1 (by rw[o]) (by rw[o];exact HX.2.1) (by rw[o]);have e1:∀ y∈ds.set k x,Sized y/\y.drv=()/\y.name.size<=1000:=λy hy=>by
  rcases cj hy with h|rfl
  .exact⟨(HK.tr.el y h).sz,(HK.tr.el y h).drv,HK.nm y h⟩
  .rw[o];exact⟨⟨F.sz.name,F.sz.orig,F.sz.sub,F.sz.drv,F.sz.ali⟩,F.drv,HK.nm v J⟩
 have e2:=zNB kb a (ds:C) d6 ev en ec ix (ds.set k x) x W4 (HX.2.2.heap HK.blk id) (λy hy=>⟨_,(b3 y hy).1,(b3 y hy).2⟩) (λW hf=>by
  have e3:=HX.2.2.step hf zi;have h2:Sound x (cAtt I):=by rw[o];exact⟨O.2.2.2.2.1.rng,O.2.2.2.2.1.named,O.2.2.2.2.1.same,O.2.2.2.2.1.num,O.2.2.2.2.1.attrs,O.2.2.2.2.1.link⟩
  have a7:ds.any (clP x)=false:=by rw[<-O.2.2.2.2.2,<-zDQ,e0,zDQ]
  exact(zIL a d6 u ds k v x (cAtt I) m W (HK.tr.no e3) hn O.1 (by rw[o];exact O.2.1) (by rw[o];exact⟨rfl,rfl,rfl⟩) (e1 x (List.mem_set (List.getElem?_eq_some_iff.1 O.1).1 x)).1 (by rw[o];exact HX.2.1.no hf (λ_=>id)) (zC0 I) (by rw[o]) (by rw[o];exact O.2.2.2.1) (by rw[o];exact F.drv) h2 a7 (e3.cell HM id) (Nat.lt_of_lt_of_le h0 e3.size)).mono λe w' h=>⟨h.1.tmk,h.2⟩)
 have g3:=zg2 b3 e1;have e4:x.index=v.index:=by rw[o]
 have i3:=zh e4;have h3:(bp a0 x.index).wf=true:=by rw[e4];exact HK.tr.wf.ok.iwf J
 clear b3 e1 F J e0 e4 o;obtain⟨c0,c1,c2,h4,c4,c5,c6,c7,c8,c9⟩:=DevB.of HU.2;unfold bg at e2;go_wp2_with fail;apply e2.mono;rintro e w6 ⟨rfl,⟨a',c',z,d3,b6⟩,a4⟩;have s4:=HX.2.2.size;have b7:=b6.cop.strip.trans h1;have Z:KSt w6 kb u a' c' z ev en ec ix:=(HK.out.no HX.2.2).tmk a4 d3 b6 (by omega) g3.2 (TreeWf.ofStrip HK.tr.wf b7);have i4:z.length<=256:=by have:=bq bw b7;rw[bx,bx]at this;omega
 have HR:=zg4 Z b7 (g3.1.cop b6.cop) ((x3.mono zn:Fr (Is kb) w w3));have v4:=a4.heap HU.1 (λh=>by omega);have v5:=a4.heap HU.2 (λh=>by omega);have FW:H (Fr (Is kb) w w6):=(HX.2.2.mono zn).step a4 zi;have s6:=FW.size;clear e2 d3 b6 a4 Z b7 c0 c1 c2 h4 c4 c5 c6 c7 c8 c9;obtain⟨o0,o1,o2,o3,o4,o5,o6,o7,o8,o9,U,V,X,Y⟩:=OpB.of v4;have c0:w6 ⟨(w:C)+1,0,G⟩=E (.int a0 x.index):=zB v5 0;clear v4 v5;rcases hne:((ct v.index).toList==I.toList)with _|_
 .have g4:=zHq kb a' c' u z ev en ec ix 3 x.index w6 HR.1.blk HR.1.tr (by omega) h3 HR.1.nm;go_wp2_with fail;apply g4.mono;rintro e w7 ⟨⟨sp,rfl⟩,a5⟩;obtain⟨W8,g5,f8,b8⟩:=zy w7 (af #[.int a0 0,.int a0 3,.int a0 x.index,.string sp,.string ()] 143);have Z:=HR.1.no (a5.step f8 zi);obtain⟨xs,d4⟩:=Z.own;have s7:=a5.size;have s8:=f8.size;have g6:=zN8 kb (w7:C) u a' z.length c' ev en ec ix 3 x.index sp xs W8 Z.blk d4 (by omega) b8 (by omega) (λh=>by obtain⟨i5,h6⟩:=HR.1.own;have:=(zAF h6 h).2;omega);have H8:=zg3 Z (HR.2.2.1.no (a5.step f8 zi)) ((FW.step a5 zn).step f8 zn);clear g4 a5 f8 b8 Z d4 c0 o0 o1 o2 o3 o4 o5 o6 o7 o8 o9 U V X Y;go_wp2_with (fail)
  rw[<-g5];clear g5;apply g6.mono;rintro e w9 ⟨rfl,⟨d7,d8,i6,d5,a6⟩,b9,g7⟩;have g8:=H8.1.emit b9 d5 a6;have H9:=zh (au g8 (au (H8.2.1.fr b9 (λy hy ad e h=>by
   obtain⟨cs,hc⟩:=H8.1.te y hy ad e;obtain⟨i7,h5⟩:=H8.1.own;rcases h with h|h
   .rw[h,H8.1.blk]at hc;cases hc
   .exact zK h5 hc (by decide) h)) (au ((H8.2.2.mono (T:=λb=>b=kb\/(aj ev en ec).ownBlock=E b) (λb _ h=>.inl h)).step b9 (λb _ h=>h)) (λ(v':bd) (b:C) g hb=>(g7 v' b g hb).imp id (λh=>cl H8.2.2.size h)))))
  clear g6 d5 a6 b9 g7 g8;go_wp2;go_ret;exact⟨rfl,⟨a',c',z,d7,en+1,d8,H9.1,HR.2.1,H9.2.1,by omega⟩,H9.2.2⟩
 .have i8:True:=trivial;go_wp2;go_ret;exact⟨rfl,⟨a',c',z,ev,en,ec,HR.1,HR.2.1,HR.2.2.1,by omega⟩,FW.mono (λb _ h=>.inl h),λv' b g hb=>.inl (by rw[show w6 ⟨kb,3,G⟩=E (.slice ev en ec)from zB HR.1.blk 3]at g;cases g;exact hb)⟩
theorem zAn {w:ar}{u:Array Oper}{h:B Oper}{o:Oper}{a:Act}{Q:Exit->Act->ar->Prop}(A:o.guard=G)(m x:Operand)(t:TypeId)(y:o.op=Op.lookup t m x f)(F:Tryz.prog.underlying t=E (.map 3 4))
  (z:C) (g:ab->Bool) (N:C) (k:ab) (I:(bp a0 k).wf=ai) (J:a.eval m=.map (E z)) (v:BMap w z g N) (O:a.eval x=.int a0 k) (b:Bool) (U:g k=b)
  (V:wpList ap u Q h (a.put o.dst (.bool b)) w):wpList ap u Q (o::h) a w:=by
 obtain⟨D,n,_,X,Y⟩:=v;subst U;exact zBk w A m x t y 3 4 lawI F (by kernel_rfl) (zeroB w) z n D J X _ _ O (keyOf_int_mk cm I) _ (Y k) V
theorem zCO {w:ar}{y:Array Oper}{u:B Oper}{o:Oper}{a:Act}{Q:Exit->Act->ar->Prop}(J:o.guard=G)(m x v:Operand)(t:TypeId)(F:o.op=Op.mapUpdate t m x v)(O:Tryz.prog.underlying t=E (.map 3 4))
  (z:C) (g:ab->Bool) (N:C) (hN:N<az) (k:ab) (U:(bp a0 k).wf=ai) (b:Bool) (V:a.eval m=.map (E z)) (A:BMap w z g N) (X:a.eval x=.int a0 k) (Y:a.eval v=.bool b)
  (Z:∀ w',BMap w' z (upd g k b) (N+1)->Fr (Is z) w w'->wpList ap y Q u (a.put o.dst R) w'):wpList ap y Q (o::u) a w:=by
 obtain⟨D,n,hn,I,hh⟩:=A;exact wpList_mapUpdate_own w J m x v t F 3 4 lawI O _ z n D V I (by omega) _ _ _ X Y (keyOf_int_mk cm U) (.lit (.bool b)) [] (plainElem_bool (by kernel_rfl) b) (λw' h h'=>Z w' (BMap.put hn I hh k b h) (Fr.of_grown_some h'))
def usedF (l:B Dev):ab->Bool:=λn=>l.any λd=>(d.num==n)&&(d.kind==2)
def maxI (l:B Dev):ab:=l.foldl (λm d=>max m d.index) 0
theorem zGs (l:B Dev)(d:Dev):maxI (l++[d])=max (maxI l) d.index:=by unfold maxI;rw[cc];rfl
theorem zJW (l:B Dev)(d:Dev):upd (usedF l) d.num (usedF l d.num||(d.kind==2))=usedF (l++[d]):=by
 funext n
 unfold upd usedF;rw[List.any_append];by_cases h:n=d.num
 .subst h;rw[bs rfl];simp
 .rw[br h];have:(d.num==n)=false:=by simp;exact λe=>h e.symm
  simp[this]
theorem zAg {α:Type}[DecidableEq α]:∀ {l m:B α},l.Nodup->(∀ x∈l,x∈m)->(l:C)<=(m:C)
 | [],m,_,_=>Nat.zero_le _
 | x::t,m,o,h=>by
  rw[List.nodup_cons]at o;have v:=h x (by simp);have A:=zAg (l:=t) (m:=m.erase x) o.2 (λy z=>by
   have u:y≠x:=λe=>o.1 (e▸z)
   exact(List.mem_erase_of_ne u).2 (h y (by simp[z])))
  have F:=List.length_erase_of_mem v;have I:=List.length_pos_of_mem v;rw[bo];omega
theorem zJV (ds:B Dev)(k:C)(h:∀ i:C,i<=k->usedF ds (1048576+(i:ab))=ai):k<(ds:C):=by
 have y:=zAg (l:=(List.range (k+1)).map λi:C=>1048576+(i:ab)) (m:=ds.map λd=>d.num) (by
  refine cq _ (λa b (o:a≠b) (e:1048576+(a:ab)=1048576+(b:ab))=>o (by omega)) List.nodup_range) (λx z=>by
  obtain⟨i,A,rfl⟩:=List.mem_map.1 z;have u:=h i (by have:=List.mem_range.1 A;omega);unfold usedF at u;obtain⟨d,F,v⟩:=List.any_eq_true.1 u;rw[Bool.and_eq_true,beq_iff_eq]at v;exact List.mem_map.2 ⟨d,F,v.1⟩)
 simp at y;omega
theorem zP0 (pb Y:C)(a:aw ax)(U:C)(ds:B Dev)(v1:bd)(w:ar)(hl:Tr w Y a U ds)(hn:(ds:C)<=250)(a2:w.heap[pb]?=E (af #[.slice a ds U,v1] 117))
  (y:∀ d∈ds,(bp a0 d.num).wf=ai):
  ba ap 93 #[ak (E ⟨pb,0,G⟩)] w λe w'=>(∃ k:C,k<=(ds:C)/\usedF ds (1048576+(k:ab))=f/\(∀ i:C,i<k->usedF ds (1048576+(i:ab))=ai)/\e=.returned (.tuple #[.int a0 (1048576+(k:ab)),.int a0 (maxI ds)]))/\Fr No w w':=by
 have b9:=hl.dv.lenmax;obtain⟨W0,a3,x0,-⟩:=zy w (.map #[] 0);have hM:BMap W0 (w:C) (usedF []) 0:=by rw[a3];exact zEm w
 have t0:W0 ⟨pb,0,G⟩=E (.slice a ds U):=zB (x0.heap a2 id) 0;have d0:=zC a2;have HT:=zg2 hl hn;have HW:=zh y;have HX:=zh x0;have b5:=@run_makeMap ap;clear hl hn a2 y x0;go_enter Tryz.func93,Tryz.ntmps93;go_upto_region 2 with(fail)
 rw[<-a3];clear a3;go_wp2_with fail;clear t0 b5;go_loopw [5,16] (λu i wr=>∃ k,k<=(ds:C)/\u=.int a0 (maxI (ds.take k))/\i=.int a0 (k:ab)/\BMap wr (w:C) (usedF (ds.take k)) k/\Fr (Is (w:C)) W0 wr) (λ_ i _=>(ds:C)-(be i).toNat);case atStart=>exact⟨0,by omega,rfl,rfl,hM,av _ _⟩
 case round=>
  obtain⟨k,hk,rfl,rfl,hB,hf⟩:=hrel;by_cases b6:k<(ds:C)
  .have a7:(k:ab)<(ds:C):=by omega
   have a8:Tr wr Y a U ds:=HT.1.no (HX.step hf (λb hb h=>by omega));obtain⟨bb,d2,d,rfl,hd,Z,c1,c2,c3,c4,c5,c6,c7,c8,c9⟩:=a8.dv.dev b6;have a9:=bj hd;have b0:H (ds.take (k+1)=ds.take k++[d]):=(by unfold H;rw[cd,hd];rfl);obtain⟨W1,a4,a5,d1⟩:=zy wr (af d.vals 48);have A:=hB.fr a5 id;have d3:(w:C)<(wr:C):=hB.lt;have y:=HW.out d a9;have a6:=zh (hf.step a5 zn);have z:=DevB.of d1;unfold bg at a4;obtain⟨u0,F⟩:=ε (usedF (ds.take k) d.num)
   have hU:H (upd (usedF (ds.take k)) d.num (u0||(d.kind==2))=usedF (ds.take (k+1))):=(by unfold H;rw[F,b0,zJW]);have I:H (maxI (ds.take (k+1))=max (maxI (ds.take k)) d.index):=(by unfold H;rw[b0,zGs]);clear hd hB hf a5 d1 a8;go_upto_region 5 with(fail)
   rw[<-a4];clear a4 Z c1 c2 c3 c4 c5 c6 c7 c8 c9;obtain⟨Z,c1,c2,c3,c4,c5,c6,c7,c8,c9⟩:=z;have d4:k<=250:=(by have:=HT.2;omega);have b7:=I;obtain⟨mx,V⟩:=ε (max (maxI (ds.take k)) d.index)
   rw[<-V]at I;clear b7;rcases hu1:u0 with _|_
   .have X:=F.symm.trans hu1;rcases hkd:(d.kind==2)with _|_
    .skip;have J:H (upd (usedF (ds.take k)) d.num f=usedF (ds.take (k+1))):=(by unfold H;rw[<-hU,hu1,hkd];rfl);clear hU F hu1;go_wp2_with (first
      | (at_lookup;refine zAn rfl _ _ 206 rfl bm (w:C) _ _ d.num y rfl A rfl f X ?_)
      | (at_mapUpdate;refine zCO rfl _ _ _ 206 rfl bm (w:C) _ _ (by unfold az;omega) d.num y f rfl A rfl rfl ?_;intro w6 o v;have Z:w6 ⟨wr,0,G⟩=E (.int a0 d.index):=v.cell Z (λh=>by unfold Is at h;dsimp only at h;omega)))
     rw[J]at o;have N:=zh (a6.step v (λb _ h=>h));have O:=zh o;clear o v A;go_roundw;case rel=>exact⟨k+1,by omega,by rw[I,V],by go_num,O,N⟩
     case measure=>simp[be];omega
    .skip;have J:H (upd (usedF (ds.take k)) d.num ai=usedF (ds.take (k+1))):=(by unfold H;rw[<-hU,hu1,hkd];rfl);clear hU F hu1;go_wp2_with (first
      | (at_lookup;refine zAn rfl _ _ 206 rfl bm (w:C) _ _ d.num y rfl A rfl f X ?_)
      | (at_mapUpdate;refine zCO rfl _ _ _ 206 rfl bm (w:C) _ _ (by unfold az;omega) d.num y ai rfl A rfl rfl ?_;intro w6 o v;have Z:w6 ⟨wr,0,G⟩=E (.int a0 d.index):=v.cell Z (λh=>by unfold Is at h;dsimp only at h;omega)))
     rw[J]at o;have N:=zh (a6.step v (λb _ h=>h));have O:=zh o;clear o v A;go_roundw;case rel=>exact⟨k+1,by omega,by rw[I,V],by go_num,O,N⟩
     case measure=>simp[be];omega
   .have X:=F.symm.trans hu1;have hkd:(ai||(d.kind==2))=true:=rfl;have J:H (upd (usedF (ds.take k)) d.num ai=usedF (ds.take (k+1))):=(by unfold H;rw[<-hU,hu1];rfl);clear hU F hu1;go_wp2_with (first
     | (at_lookup;refine zAn rfl _ _ 206 rfl bm (w:C) _ _ d.num y rfl A rfl ai X ?_)
     | (at_mapUpdate;refine zCO rfl _ _ _ 206 rfl bm (w:C) _ _ (by unfold az;omega) d.num y ai rfl A rfl rfl ?_;intro w6 o v;have Z:w6 ⟨wr,0,G⟩=E (.int a0 d.index):=v.cell Z (λh=>by unfold Is at h;dsimp only at h;omega)))
    rw[J]at o;have N:=zh (a6.step v (λb _ h=>h));have O:=zh o;clear o v A;go_roundw;case rel=>exact⟨k+1,by omega,by rw[I,V],by go_num,O,N⟩
    case measure=>simp[be];omega
  .obtain rfl:k=(ds:C):=by omega
   have a7:¬ ((ds:C):ab)<(ds:C):=(by omega);have b1:BMap wr (w:C) (usedF ds) (ds:C):=(by rw[ck]at hB;exact hB);have Hf:=zh (HX.step hf (λb hb h=>by omega));have b2:=zh (show (ds:C)<=250 from HT.2);rw[ck];clear hB hf;go_wp2_with fail;obtain⟨wA,rfl⟩:=ε wr
   go_loopw [8] (λx wz=>∃ k:C,k<=(ds:C)/\x=.int a0 (1048576+(k:ab))/\H (∀ i:C,i<k->usedF ds (1048576+(i:ab))=ai)/\wz=wA) (λx _=>(ds:C)-(be x-1048576).toNat);case atStart=>exact⟨0,by omega,rfl,λi h=>by omega,rfl⟩
   case round=>
    obtain⟨k,hk,rfl,HU,rfl⟩:=hrel;obtain⟨K,hK⟩:∃ K:ab,K=1048576+(k:ab):=⟨_,rfl⟩
    have HK:=zh hK;have b8:=b2.out;have b3:(bp a0 K).wf=true:=WalkArith.wf_i64 (by show _/\_;omega);have d5:K<=1048826/\0<=K:=(by omega);rw[<-hK];clear hK;rcases hus:usedF ds K with _|_
    .go_wp2_with (at_lookup;refine zAn rfl _ _ 206 rfl bm (w:C) _ _ K b3 rfl b1 rfl f hus ?_)
     go_ret2;exact⟨⟨k,hk,by rw[<-HK];exact hus,HU,by rw[HK];rfl⟩,Hf⟩
    .have b4:H (∀ i:C,i<k+1->usedF ds (1048576+(i:ab))=ai):=λi hi=>by
      rcases Nat.lt_or_ge i k with h|h
      .exact HU i h
      .obtain rfl:i=k:=by omega
       rw[<-HK];exact hus
     have d6:=zJV ds k (λi hi=>b4 i (by omega));go_wp2_with (at_lookup;refine zAn rfl _ _ 206 rfl bm (w:C) _ _ K b3 rfl b1 rfl ai hus ?_)
     go_roundw;case rel=>
      refine⟨k+1,by omega,?_,b4,trivial⟩;have:=HK.out
      congr 1
      omega
     case measure=>have:=HK.out;simp[be];omega
theorem infoOp: (Tryz.prog.info? 72).map (λi=>(i.zero,i.size,i.bytes))=E (E (ag #[aq a0 0,am,aq a0 0,aq a0 0,am,am,am,am,am,aq a0 0,aq a0 0,ae G 0 0,am,am]),14,192):=by kernel_rfl
theorem zDG (k:ab)(h:ah)(x:Dev)(nm v:ah):∀ u∈(ocs k h x nm v).toList,u.oneCell'=true:=by
 intro u o;unfold ocs at o;simp at o;rcases o with rfl|rfl|rfl|rfl|rfl|rfl|rfl|rfl|rfl|rfl|rfl|rfl|rfl|rfl<;>rfl
theorem zIf {base':C}{e:TypeId}{v:bd}{F:B bd}(h:w.ownsRow o e u v n F)(J:base'<=o):w.ownsRow base' e u v n F:=by
 obtain⟨I,⟨y,N⟩|⟨g,z,A,y,O,U⟩⟩:=h;·exact⟨I,.inl ⟨y,N⟩⟩
 .exact⟨I,.inr ⟨g,z,A,y,cl J O,U⟩⟩
structure OpA where
 k:ab
 p:ah
 x:Dev
 nm:ah
 vl:ah
 c:ah
def OpA.vals (o:OpA):Array bd:=ocs o.k o.p o.x o.nm o.vl
def opF (l:B OpA):B bd:=l.flatMap λo=>o.vals.toList
theorem zFt (l:B OpA)(o:OpA):opF (l++[o])=opF l++o.vals.toList:=by unfold opF;rw[List.flatMap_append];simp
def ZD : Dev:=⟨0,0,(),(),(),(),(),0,0,G,0,0⟩
def zAO (M:B Vir)(s:B Dev×B OpA)(d:Dev):B Dev×B OpA:=
 if (virB s.1 d.index&&!inW M (plc s.1 d.parent) d.orig)=ai then (remL d.index s.1,s.2++[⟨2,plc s.1 d.index,ZD,(),(),()⟩])else s
def remF (M:B Vir)(ds:B Dev)(pre:B (ab×Dev)):B Dev×B OpA:=pre.foldl (λs x=>zAO M s x.2) (ds.map strip,[])
theorem zEB (M:B Vir)(ds:B Dev)(pre:B (ab×Dev))(x:ab×Dev):remF M ds (pre++[x])=zAO M (remF M ds pre) x.2:=by unfold remF;rw[cc];rfl
theorem zCh (M:B Vir)(ds:B Dev):∀ pre,(remF M ds pre).2.length<=pre.length/\(remF M ds pre).1.length<=(ds:C):=by
 have h:∀ (pre:B (ab×Dev)) (s:B Dev×B OpA),(pre.foldl (λs x=>zAO M s x.2) s).2.length<=s.2.length+pre.length/\(pre.foldl (λs x=>zAO M s x.2) s).1.length<=s.1.length:=by
  intro pre
  induction pre with
  | nil=>intro s;simp
  | cons x t o=>
   intro s;have u:=o (zAO M s x.2);rw[cf,bo];have v:(zAO M s x.2).2.length<=s.2.length+1/\(zAO M s x.2).1.length<=s.1.length:=by
    unfold zAO;split
    .refine⟨by simp,?_⟩;exact List.length_filter_le _ _
    .simp
   omega
 intro pre;have:=h pre (ds.map strip,[]);rw[bx]at this;unfold remF
 simpa using this
theorem zCQ (ds:B Dev):(ds.map strip).map strip=ds.map strip:=by rw[List.map_map];rfl
def RemOk (M:B Vir)(ds:B Dev):Prop:=∀ (pre:B (ab×Dev)) (x:ab×Dev),pre++[x] <+: revR ds->TreeWf (remF M ds pre).1/\TreeWf (remF M ds (pre++[x])).1/\∃ y,look (remF M ds pre).1 x.2.index=E y
def wcF (M:B Vir)(p:ah×ah):ah:=match M.find? (λv=>decide ((v.q,v.o)=p))with|some v=>v.c|none=>()
theorem zOR (M:B Vir)(p:ah×ah):∃ y:Vir,(wantG M p).getD zFY=ag #[y.q,y.o,y.c,y.r]/\y.c=wcF M p:=by
 unfold wantG wcF;cases h:M.find? (λv=>decide ((v.q,v.o)=p))with
 | none=>exact⟨⟨(),(),(),0⟩,rfl,rfl⟩
 | some v=>exact⟨v,rfl,rfl⟩
def zAa (M:B Vir)(ds:B Dev)(ct:ab->ah)(s:(ab->ah)×B OpA)(d:Dev):(ab->ah)×B OpA:=
 if (virB ds d.index&&!((ct d.index).toList==(wcF M (plc ds d.parent,d.orig)).toList))=ai then (updC s.1 d.index (wcF M (plc ds d.parent,d.orig)),s.2++[⟨3,plc ds d.index,ZD,zM,wcF M (plc ds d.parent,d.orig),()⟩])else s
def setF (M:B Vir)(ds:B Dev)(ct:ab->ah)(ops:B OpA)(k:C):(ab->ah)×B OpA:=(ds.take k).foldl (zAa M ds ct) (ct,ops)
theorem zD7 {o:B OpA}(h:ds[k]?=E d):setF M ds ct o (k+1)=zAa M ds ct (setF M ds ct o k) d:=by unfold setF;rw[cd,h,cc];rfl
theorem zIU (M:B Vir)(ds:B Dev)(ct:ab->ah)(o:B OpA)(k:C):(setF M ds ct o k).2.length<=(o:C)+k:=by
 have h:∀ (l:B Dev) (s:(ab->ah)×B OpA),(l.foldl (zAa M ds ct) s).2.length<=s.2.length+(l:C):=by
  intro l
  induction l with
  | nil=>intro s;simp
  | cons x t u=>
   intro s;have y:=u (zAa M ds ct s x);rw[cf,bo];have v:(zAa M ds ct s x).2.length<=s.2.length+1:=by
    unfold zAa;split<;>simp
   omega
 have:=h (ds.take k) (ct,o);have v:(ds.take k).length<=k:=by rw[ci];omega
 unfold setF;dsimp only at this;omega
def SetOk (M:B Vir)(ds:B Dev)(ct:ab->ah):Prop:=∀ d∈ds,d.kind=2/\ds.any (clP d)=f/\(virB ds d.index=ai->Sound d (cAtt (wcF M (plc ds d.parent,d.orig)))/\(wcF M (plc ds d.parent,d.orig)).size<=100000)
attribute [local go_sem] Oper.semAt_some
theorem zIX {α:Type}{L:B α}{pre:B (ab×α)}{x:ab×α}(h:pre++[x] <+: revR L):(pre:C)<(L:C)/\L.take ((L:C)-(pre:C))=L.take ((L:C)-(pre++[x]).length)++[x.2]:=by
 have v:=h.length_le;rw[zAf,bu]at v;simp only[bo,ca]at v;have u:(pre:C)<(L:C):=by omega
 have F:(revR L)[(pre:C)]?=E x:=by
  obtain⟨t,I⟩:=h;rw[<-I];simp
 refine⟨u,?_⟩;obtain⟨j,U⟩:=ε ((L:C)-1-(pre:C))
 have o:j<(L:C):=by omega
 obtain⟨z,y⟩:∃ z,L[j]?=E z:=⟨_,List.getElem?_eq_getElem o⟩
 have A:=zKo o y;have e:(L:C)-1-j=(pre:C):=by omega
 rw[e,F]at A;have J:x.2=z:=by rw[Option.some.inj A]
 have N:(L:C)-(pre:C)=j+1:=by omega
 have O:(L:C)-(pre++[x]).length=j:=by rw[bu];simp only[bo,ca];omega
 rw[N,O,J,cd,y];rfl
def TrF (a:aw ax)(cs:B Dev)(b:C):Prop:=(∃ ad,a=E ad/\ad.block=b)\/∃ d∈cs,∃ ad,d.aa=E ad/\ad.block=b
def TrT (W:ar)(a:aw ax)(cs:B Dev):Prop:=∀ b,TrF a cs b->∃ x T,W.heap[b]?=E (af x T (0,0))/\(T=48\/T=78)
theorem TrT.fr {o:ar}(h:TrT W a cs)(v:Fr S W o)(y:∀ b,TrF a cs b->¬ S b):TrT o a cs:=λb u=>by
 obtain⟨x,T,z,A⟩:=h b u;exact⟨x,T,v.heap z (y b u),A⟩
theorem TrT.lt (h:TrT W a cs)(o:TrF a cs b):b<(W:C):=by
 obtain⟨x,T,u,_⟩:=h b o;exact zC u
theorem TrT.ne (h:TrT W a cs)(u:TrF a cs b){x:Array bd}{T:TypeId}(v:W.heap[k]?=E (af x T))(z:T≠48)(A:T≠78):b≠k:=by
 rintro rfl;obtain⟨y,I,o,F⟩:=h b u;rw[v]at o;cases o;exact F.elim z A
theorem TrT.ne_own (h:TrT W a cs)(u:TrF a cs b){v:bd}{z:B bd}(A:W.ownsRow o 72 14 v n z):¬ v.ownBlock=E b:=by
 obtain⟨y,J,F,I⟩:=h b u;apply zK A F;rcases I with rfl|rfl<;>decide
theorem Tr.foot (h:Tr W o a u ds)(A:Fr S W z)(F:∀ b,TrF a ds b->¬ S b):Tr z o a u ds:=
 ⟨h.dv.fr A (λy e _=>F _ (.inl ⟨y,e,rfl⟩)),h.wf,h.fresh,λd v=>by
  obtain⟨l,I,J⟩:=(h.el d v).att;exact⟨(h.el d v).sz,(h.el d v).drv,⟨l,I.fr A (λy e _=>F _ (.inr ⟨d,v,y,e,rfl⟩)),J⟩,(h.el d v).fresh⟩⟩
structure RmI (pb rb base:C)(w0:ar)(M:B Vir)(ct:ab->ah)(ds:B Dev)(pre:B (ab×Dev))(V:C->Prop)(W:ar):Prop where
 st:∃ (a1:aw ax) (c1:C) (cs:B Dev) (ao:aw ax) (no co:C),no=(remF M ds pre).2.length/\W.heap[pb]?=E (af #[ae a1 cs c1,ae ao no co] 117)/\Tr W base a1 c1 cs/\cs.map strip=(remF M ds pre).1/\W.ownsRow rb 72 14 (ae ao no co) no (opF (remF M ds pre).2)/\TrT W a1 cs/\V=(λb=>b=pb\/(aj ao no co).ownBlock=E b\/((w0:C)<=b/\TrF a1 cs b))/\CtO W cs ct
 fr:Fr (λb=>b=pb\/(w0:C)<=b) w0 W
theorem RmI.lt {y:C}(h:RmI v y o z M ct ds pre V W)(u:V b):b<(W:C):=by
 obtain⟨a1,c1,cs,J,N,O,U,A,X,Y,F,I,rfl,Z⟩:=h.st;rcases u with rfl|u|u
 .exact zC A
 .exact(zAF F u).2
 .exact I.lt u.2
theorem RmI.mv {A N:ar}(h:RmI I J v F M ct ds pre V A)(z:Fr S A N)(u:∀ b,S b->¬ V b/\(F:C)<=b):RmI I J v F M ct ds pre V N:=by
 obtain⟨a1,c1,cs,O,U,X,Y,Z,h2,h3,h4,h5,h6,h7⟩:=h.st;subst h6;exact⟨⟨a1,c1,cs,O,U,X,Y,z.heap Z (λy=>(u _ y).1 (.inl rfl)),h2.foot z (λb y o=>(u b o).1 (.inr (.inr ⟨(u b o).2,y⟩))),h3,zG h4 z (λb y o=>(u b o).1 (.inr (.inl y))),h5.fr z (λb y o=>(u b o).1 (.inr (.inr ⟨(u b o).2,y⟩))),rfl,h7.fr z (λd hd ad e o=>(u _ o).1 (.inr (.inr ⟨(u _ o).2,.inr ⟨d,hd,ad,e,rfl⟩⟩)))⟩,h.fr.step z (λb y o=>.inr (u b o).2)⟩
theorem zQk (u mb I:C)(a:aw ax)(b4:C)(ds:B Dev)(M:B Vir)(ct:ab->ah)(N:C)(w:ar)(hl:Tr w I a b4 ds)(hn:(ds:C)<=250)(hE:Env w)(d9:TrT w a ds)(hC:CtO w ds ct)(hR:RemOk M ds)(m0:∀ d∈ds,d.kind=2)
  (g0:w.heap[u]?=E (af #[.slice a ds b4,.slice G 0 0] 117)) (hQ:QMap w mb (wantG M) N) (w2:u≠mb) (w3:I<=u) (w4:8<u):
  ba ap 49 #[ak (E ⟨u,0,G⟩),.map (E mb)] w λe w'=>e=.returned (.tuple #[])/\(∃ (a1:aw ax) (c1:C) (cs:B Dev) (ao:aw ax) (J co:C),J=(remF M ds (revR ds)).2.length/\w'.heap[u]?=E (af #[.slice a1 cs c1,.slice ao J co] 117)/\Tr w' I a1 c1 cs/\cs.map strip=(remF M ds (revR ds)).1/\w'.ownsRow (w:C) 72 14 (.slice ao J co) J (opF (remF M ds (revR ds)).2)/\TrT w' a1 cs/\CtO w' cs ct)/\Fr (Is u) w w':=by
 obtain⟨i0,r6,r7,r8,r9⟩:=info_parts infoOp;refine(callsIn_wide (n:=12)).1 (callsIn_of_wp_marks Tryz.func49 rfl trivial (wpIn_wide.2 ?_));simp only[Tryz.ntmps49,List.size_toArray,bo,ca,Nat.reduceAdd,Nat.reduceSub,Array.replicate_succ,Array.replicate_zero,List.push_toArray,List.append_toArray,List.nil_append,List.cons_append];have o4:=zg2 hR m0;have HN:=zh hn;have s0:=zh hC;obtain⟨W0,m3,hW,b2,b3⟩:=zw w (af #[ak (E ⟨u,0,G⟩)] 115) (af #[.map (E mb)] 83);have o5:(W0:C)=(w:C)+2:=by rw[m3];simp
 have t2:W0 ⟨w,0,G⟩=E (ak (E ⟨u,0,G⟩)):=zB b2 0;have t0:W0 ⟨u,0,G⟩=E (.slice a ds b4):=zB (hW.heap g0 id) 0;have o6:=zh o5;have x4:=hl.dv.lenmax;clear o5;go_upto_region 1 with(fail)
 rw[<-m3];clear m3;go_wp2_with fail;apply (zJM _ _ _ _).mono;rintro e w1 ⟨rfl,rfl⟩;have hx:Fr No W0 (W0.alloc (af #[.slice a ds b4] 37)):=(av _ _).alloc _;have db:=zF W0 (af #[.slice a ds b4] 37);have O:=hW.step hx zi;have d2:=hx.heap b2 id;have d3:=hx.heap b3 id;rw[o6]at db;clear t0 t2 b2 b3 hx hW;go_wp2_with fail;rw[o6];generalize W0.alloc (af #[.slice a ds b4] 37)=W2 at *;obtain⟨rb,s1⟩:=ε ((W2:C)+2)
 have v8:u<(W2:C):=by have:=zC g0;have:=O.size;omega
 have v9:u<(w:C):=zC g0;have HA:=zg4 (hl.no O) (hE.no O) (O.heap g0 id) (hQ.fr O id);have HD:=zg2 d2 d3;refine(wpIn_wide (n:=12)).1 (zAs (α:=ab×Dev) (T:=λ_=>False) (V0:=Is u) rfl (by omega) (gf:=137) (lb:=#[ak (E ⟨(w:C)+2,0,G⟩)]) rfl trivial (enters_of Tryz.func137 (by kernel_rfl) rfl) (encs:=λx:ab×Dev=>#[.int a0 x.1,ag x.2.vals]) (λ_=>rfl) (λb h=>h.elim) (λb h=>by omega)
  (zCL 11 (by omega) ((w:C)+2) a b4 ds W2 (Is u) db HA.1.dv (by omega) ⟨λh=>by omega,λad e _ h=>d9.ne (.inl ⟨ad,e,rfl⟩) g0 (by decide) (by decide) h⟩)
  (RmI u rb I W2 M ct ds) (λs V A h b F=>h.lt F) (λs V A g1 S h hf hS=>h.mv hf (λb F=>⟨(hS b F).1,(hS b F).2.resolve_left id⟩))
  ⟨⟨a,b4,ds,G,0,0,rfl,HA.2.2.1,HA.1,rfl,World.ownsRow_nil _ _ _ _,d9.fr O (λ_ _=>id),by
   funext b
   apply propext;constructor;·intro h;exact .inl h
   .rintro (h|h|⟨h1,h2⟩);·exact h
    .cases h
    .have:=d9.lt h2;have:=O.size;omega,s0.out.no O⟩,av _ _⟩
  (λx V a' W=>∃ Bx,(W2:C)+2<=Bx/\W.heap[Bx]?=E (af x.2.vals 48)/\¬ V Bx/\a'={ tmps:=#[ak (E ⟨u,0,G⟩),.map (E mb),ak (E ⟨w,0,G⟩),ak (E ⟨(w:C)+1,0,G⟩),R,ak (E ⟨Bx,0,G⟩),R,R,R,R,ak (E ⟨u,0,G⟩),ak (E ⟨u,0,G⟩),ak (E ⟨u,0,G⟩),ak (E ⟨u,0,G⟩),.slice a ds b4,.func (.func 137) #[] #[ak (E ⟨(w:C)+2,0,G⟩)],.int a0 x.1,ag x.2.vals,R,R,R,R,R,R,R,R,R,R,R,R,R,R,R,R,R,R,R,R,R,R,R,R,R,R,R,R,R,R,R,R,R,R,R,R,R,R,R,R,R,R,R,R,R,R,R,R,R,R,R,R,R,R,R,R,R,R,R,R,R],defers:=[] })
  (λx V a' A g1 h hf=>by obtain⟨Bx,h1,h2,h3,h4⟩:=h;exact⟨Bx,h1,hf.heap h2 (λe=>by omega),h3,h4⟩)
  ?assign ?body ?done)
 case assign=>
  intro l pre V x W K hi l2 Z;have s2:∀ b,V b->b<(W:C):=λb F=>hi.lt F
  have x5:=λa' W' (h1:Fr No W W') h2=>Z a' W' h1 h2
  clear hl hE g0 hQ hn O d2 d3 db hC hR m0;unfold bg
  gi_wp2
  exact Z _ _ ((av _ _).alloc _) ⟨(W:C),l2,zF _ _,λh=>by have:=s2 _ h;omega,rfl⟩
 case done=>
  rintro V W hi Z x6;obtain⟨a1,c1,cs,ao,J,co,h8,h5,a5,g2,a7,h9,s4,i3⟩:=hi.st;have a3:Fr (Is (W2:C)) W (W.putObj (W2:C) (.deferred G)):=Fr.putObj _ _ _ rfl;have b5:∀ b,TrF a1 cs b->¬ Is (W2:C) b:=λb F e=>by
   obtain⟨y,T',h3,_⟩:=h9 b F;unfold Is at e;rw[e,Z]at h3;cases h3
  have x1:=a3.heap h5 (λh=>by omega);have x2:=zIf (zG a7 a3 (λb F h=>by have:=(zAF a7 F).1;omega)) (base':=(w:C)) (by have:=O.size;omega);have x3:Fr (Is u) w (W.putObj (W2:C) (.deferred G)):=((O.mono zn).step hi.fr (λb F h=>h)).step a3 (λb F e=>by omega) |>.mono (λb F h=>by
   rcases h with h|h
   .exact h
   .have:=O.size;omega)
  have a8:=zg6 x1 (a5.foot a3 b5) x2 x3 (h9.fr a3 b5) (i3.fr a3 (λd hd ad e=>b5 _ (.inr ⟨d,hd,ad,e,rfl⟩)));have o7:=zg2 h8 g2;clear hi a3 O h5 a5 a7 h9 d9 x1 x2 x3 s4 i3 h8 g2 b5;go_wp2_with fail;refine⟨by simp,.inl ⟨_,_,rfl,run_takeDeferred Z,?_⟩⟩;exact⟨.tuple #[],by simp[results,Tryz.results49,go_sem],rfl,⟨a1,c1,cs,ao,J,co,o7.1,a8.1,a8.2.1,o7.2,a8.2.2.1,a8.2.2.2.2.1,a8.2.2.2.2.2⟩,a8.2.2.2.1⟩
 case body=>
  rintro l pre V ⟨xi,d⟩ a' W1 hi ⟨Bx,x7,m4,o8,rfl⟩ g8 l2;obtain⟨a1,c1,cs,ao,J,co,h8,h5,a5,g2,a7,d9,rfl,i3⟩:=hi.st;have d1:d∈ds:=zB4 (p:=(xi,d)) (g8.subset (by simp));obtain⟨s5,o9,y0,d4⟩:=o4.1 pre (xi,d) g8;dsimp only at d4;rw[<-g2,zBC]at d4;obtain⟨dn,m5⟩:∃ dn,look cs d.index=E dn:=by
   cases h:look cs d.index with
   | none=>rw[h]at d4;cases d4
   | some y=>exact⟨y,rfl⟩
  have s6:=zCh M ds pre;have m6:=g8.length_le;rw[zAf,bu]at m6;simp only[bo,ca]at m6;have s7:(cs:C)<=250:=by
   have h:=bq bw g2;rw[bx]at h;have:=HN.out;omega
  have y1:J<=250:=by have:=HN.out;omega
  have p0:=zEB M ds pre (xi,d);have l3:∀ m7:B Dev,m7.map strip=(remF M ds (pre++[(xi,d)])).1->TreeWf m7:=λm7 h=>TreeWf.ofStrip o9 (by rw[h,<-h,zCQ,h])
  have a9:=zg4 h8 g2 p0 l3;have d5:∀ b,b<(W2:C)->b≠u->¬ (b=u\/(W2:C)<=b):=λb h h1 h'=>by rcases h' with h'|h'<;>omega
  have D1:=zh m4;have k0:H (Bx<(W1:C)/\(w:C)<(W1:C)/\(w:C)+1<(W1:C)):=⟨zC m4,by have:=zC HD.1;omega,by have:=zC HD.2;omega⟩
  have h6:=hi.fr;have a6:=zg2 (h6.heap HD.1 (d5 _ (zC HD.1) (by omega))) (h6.heap HD.2 (d5 _ (zC HD.2) (by omega)));have p1:Env W1:=HA.2.1.fr h6 (λb F=>d5 b (by have:=HA.2.1.sz;omega) (by omega));have m8:=HA.2.2.2.fr h6 (d5 _ HA.2.2.2.lt (by omega));have HI:=zh h6;have b0:=zh a7;have i4:=zh d9;have s8:=zh o8;have s9:H (rb<=(W1:C)):=by have:=s1;unfold H;omega
  have l4:=zh i3;have t8:=zh (o4.2 d d1);clear hl hE g0 hQ hn O d2 d3 db h6 g8 d5 m4 hi a7 d9 g2 o8 i3 h8 p0 l3 s5 o9 d4 s6 m6 hC hR m0;have i5:H (mb<(W1:C)/\u<(W1:C)):=⟨m8.lt,zC h5⟩
  have p2:H (∀ W,Fr No W1 W->QMap W mb (wantG M) N):=λW hW=>m8.fr hW id
  obtain⟨P,hP⟩:=ε (plc cs d.parent)
  obtain⟨xo,k3⟩:=ε d.orig
  have p3:(bp a0 d.parent).wf=true:=HA.1.wf.ok.pwf d1;have v0:H ((bp a0 d.index).wf=ai):=HA.1.wf.ok.iwf d1;have m9:H (∀ W,Fr No W1 W->ba ap 88 #[ag #[.slice a1 cs c1],ag d.vals] W λe w'=>e=.returned (ag #[.string P,.string xo])/\Fr No W w'):=λW hW=>by
   rw[hP,k3];have hT:=a5.no hW;exact zID a1 c1 cs d W hT.dv hT.wf.ok (by omega) p3
  have k4:H (P.size<=az/\xo.size<=az):=by
   rw[hP,k3];have h1:=zBp a5.wf.ok s7 d.parent;have h2:=HA.1.wf.ok.sz d d1;refine⟨?_,?_⟩<;>unfold az<;>omega
  obtain⟨VB,n4⟩:=ε (virB cs d.index)
  obtain⟨PO,n5⟩:=ε (plc cs d.index)
  have p4:H (∀ W,Fr No W1 W->ba ap 11 #[ag #[.slice a1 cs c1],.int a0 d.index] W λe w'=>e=.returned (.bool VB)/\Fr No W w'):=λW hW=>by
   rw[n4];exact zC6 a1 c1 cs I d.index W (a5.no hW) (p1.no hW).err
  have v1:H (∀ W,Fr No W1 W->ba ap 52 #[ag #[.slice a1 cs c1],.int a0 d.index] W λe w'=>e=.returned (.tuple #[.string PO,.bool ai])/\Fr No W w'):=λW hW=>by
   have:=zAz a1 c1 cs d.index W (a5.no hW).dv a5.wf.ok (by omega) v0;have e1:(((look cs d.index).map λ_=>pathOf (origin cs d.index)).getD ⟨#[]⟩)=PO:=n5.symm;rw[e1,m5]at this;exact this
  have v2:H (∀ W,Tr W I a1 c1 cs->ba ap 89 #[ag #[.slice a1 cs c1],.int a0 d.index] W λe w'=>RemRes W w' cs d.index e/\Fr No W w'):=λW hW=>zIK a1 c1 I cs d.index dn W hW (by omega) m5
  obtain⟨y,hy,_⟩:=zE3 M (P,xo);obtain⟨bk,n8⟩:=ε ((wantG M (P,xo)).isSome)
  have HY:=zh hy;have l5:H (remF M ds (pre++[(xi,d)])=if (VB&&!bk)=ai then (remL d.index (cs.map strip),(remF M ds pre).2++[⟨2,PO,ZD,(),(),()⟩])else remF M ds pre):=by
   unfold H;rw[a9.2.2.1];unfold zAO;rw[<-a9.2.1,zAM,zAH,zAH,<-n4,n8,zE4,hP,k3,<-n5]
  have y4:(d.kind==2)=true:=by rw[t8];rfl
  have p5:=zh n8.symm;have d6:=zh h5;have l0:=zh a5;unfold bg at m9;clear hP k3 hy n8 m8 a5 p1 d1 h5 p3 m5 n4 n5;dsimp only;unfold bg
  gi_wp2
  refine zCJ (From (W1:C)) (.q 0 (.q 1 (.q 2 (.q 3 (.q 4 (.q 5 (.m2 6 (.q 7 (.q 8 (.q 9 (.q 10 (.m1 11 (.m1 12 (.q 13 .fin))))))) 11 (.m1 6 (.q 7 (.q 8 (.q 9 (.q 10 (.m1 12 (.q 13 .fin)))))))))))))) _ (λW3 b6=>?_) zj;have d3:=b6.heap D1 id;have yp:=b6.heap d6 id;have y2:=b6.heap a6.1 id;have y3:=b6.heap a6.2 id;have v:∀ g:Gr (From (W1:C)) W3,DevB g.W Bx d:=λg=>DevB.of (g.fr.heap d3 (by unfold From;have:=k0.out;omega))
  have e0:=λg=>(v g).c0
  have e1:=λg=>(v g).c1
  have e2:=λg=>(v g).c2
  have e3:=λg=>(v g).c3
  have e4:=λg=>(v g).c4
  have e5:=λg=>(v g).c5
  have e6:=λg=>(v g).c6
  have e7:=λg=>(v g).c7
  have e8:=λg=>(v g).c8
  have e9:=λg=>(v g).c9
  have x2:∀ g:Gr (From (W1:C)) W3,g.W ⟨w,0,G⟩=E (ak (E ⟨u,0,G⟩)):=λg=>zB (g.fr.heap y2 (by unfold From;have:=k0.out;have:=i5.out;omega)) 0
  have x3:∀ g:Gr (From (W1:C)) W3,g.W ⟨(w:C)+1,0,G⟩=E (.map (E mb)):=λg=>zB (g.fr.heap y3 (by unfold From;have:=k0.out;have:=i5.out;omega)) 0
  have x0:∀ g:Gr (From (W1:C)) W3,g.W ⟨u,0,G⟩=E (.slice a1 cs c1):=λg=>zB (g.fr.heap yp (by unfold From;have:=k0.out;have:=i5.out;omega)) 0
  have l1:=zh b6;clear v d3 yp y2 y3 b6;(repeat(first|apply zL rfl rfl rfl|apply zJ rfl rfl rfl);intro K Z;go_big_quiet_op;go_big_quiet_on);clear e0 e1 e2 e3 e4 e5 e6 e7 e8 e9 x0 x2 x3;refine zAB rfl rfl ?_ ?_
  focus
   go_wp2_with fail;apply (m9 W3 l1).mono;rintro e Wc ⟨rfl,d7⟩;go_wp2_with fail;apply zm d7;have h7:=zh (l1.step d7 zi);have i6:∀ W,(∃ g:Gr (From (W1:C)) Wc,W=g.W)->(bv 83 (.map (E mb)) (ag #[.string P,.string xo]) ai).run ap W=.ok (.tuple #[ag #[.string y.q,.string y.o,.string y.c,.int a0 y.r],.bool bk]) W:=λW hW=>by
    obtain⟨g,rfl⟩:=hW;have:=((p2 _ h7).fr g.fr (by unfold From;have:=i5.out;omega)).lookok (zDr g.W) cb k4.1 k4.2;rw[this,HY,p5]
   apply zL rfl rfl rfl;intro K Z;refine zAo rfl _ _ 83 rfl (.map (E mb)) (ag #[.string P,.string xo]) _ rfl rfl i6 ?_
   go_frame
   go_big_quiet_on;clear i6;apply zL rfl rfl rfl;intro K Z;go_big_quiet_op;go_big_quiet_on;apply zL rfl rfl rfl;intro K Z;go_big_quiet_op;go_big_quiet_on;apply zL rfl rfl rfl;intro K Z;go_big_quiet_op;go_big_quiet_on;clear d7;apply zH rfl;obtain⟨Wa,i7,i8,qa⟩:=zy Wc (af #[.string (),.string (),.string (),.int a0 0] 52);go_wp2_with fail;apply zp;rw[<-i7];clear i7;have i9:H (Fr No W1 Wa):=h7.step i8 zi;have b7:H ((W1:C)<=(Wc:C)):=h7.size;have qz:=qa;clear i8 qa;obtain⟨g1,hB⟩:=ε (Wc:C)
   rw[<-hB]at qz b7 ⊢;clear hB;obtain⟨z0,z1,z2,z3⟩:=cl4 qz;obtain⟨f0,f1,f2,f3⟩:=fl4 qz;have h4:=zh (set4 qz rfl (.string y.q) (.string y.o) (.string y.c) (.int a0 y.r));clear qz;apply zH rfl;go_wp2_with fail;refine bc ⟨h4.2.mono (λb _ h=>by unfold Is at h;unfold From;have:=b7.out;omega),?_⟩;apply zL rfl rfl rfl;intro K Z;go_big_quiet_op;go_big_quiet_on;apply zW;obtain⟨w5,g4⟩:=ε ((((Wa.setCell ⟨g1,0,G⟩ (.string y.q)).setCell ⟨g1,1,G⟩ (.string y.o)).setCell ⟨g1,2,G⟩ (.string y.c)).setCell ⟨g1,3,G⟩ (.int a0 y.r))
   rw[<-g4];have b8:=h4.out;rw[<-g4]at b8;have a4:H (Fr No W1 w5):=i9.step b8.2 (λb F h=>by unfold Is at h;have:=b7.out;omega);have v3:=zh b8.1;clear g4 h4 b8 z0 z1 z2 z3 f0 f1 f2 f3 i9 b7
  rotate_left 1
  focus
   obtain⟨Wa,i7,i8,qa⟩:=zy W3 (af #[.string (),.string (),.string (),.int a0 0] 52);go_wp2_with fail;apply zp;rw[<-i7];clear i7;have p6:=zh (l1.step i8 zi);clear i8;apply zH rfl;go_wp2_with fail;apply (m9 Wa p6).mono;rintro e Wc ⟨rfl,d7⟩;go_wp2_with fail;apply zm d7;have qb:=d7.heap qa id;clear qa;have h7:=zh (p6.step d7 zi);have i6:∀ W,(∃ g:Gr (From (W1:C)) Wc,W=g.W)->(bv 83 (.map (E mb)) (ag #[.string P,.string xo]) ai).run ap W=.ok (.tuple #[ag #[.string y.q,.string y.o,.string y.c,.int a0 y.r],.bool bk]) W:=λW hW=>by
    obtain⟨g,rfl⟩:=hW;have:=((p2 _ h7).fr g.fr (by unfold From;have:=i5.out;omega)).lookok (zDr g.W) cb k4.1 k4.2;rw[this,HY,p5]
   apply zL rfl rfl rfl;intro K Z;refine zAo rfl _ _ 83 rfl (.map (E mb)) (ag #[.string P,.string xo]) _ rfl rfl i6 ?_
   go_frame
   go_big_quiet_on;clear i6;apply zL rfl rfl rfl;intro K Z;go_big_quiet_op;go_big_quiet_on;apply zL rfl rfl rfl;intro K Z;go_big_quiet_op;go_big_quiet_on;apply zL rfl rfl rfl;intro K Z;go_big_quiet_op;go_big_quiet_on;clear d7;have i9:H (Fr No W1 Wc):=h7.out;have b7:H ((W1:C)<=(W3:C)):=l1.size;have qz:=qb;clear qb;obtain⟨g1,hB⟩:=ε (W3:C)
   rw[<-hB]at qz b7 ⊢;clear hB;obtain⟨z0,z1,z2,z3⟩:=cl4 qz;obtain⟨f0,f1,f2,f3⟩:=fl4 qz;have h4:=zh (set4 qz rfl (.string y.q) (.string y.o) (.string y.c) (.int a0 y.r));clear qz;apply zH rfl;go_wp2_with fail;refine bc ⟨h4.2.mono (λb _ h=>by unfold Is at h;unfold From;have:=b7.out;omega),?_⟩;apply zL rfl rfl rfl;intro K Z;go_big_quiet_op;go_big_quiet_on;apply zW;obtain⟨w5,g4⟩:=ε ((((Wc.setCell ⟨g1,0,G⟩ (.string y.q)).setCell ⟨g1,1,G⟩ (.string y.o)).setCell ⟨g1,2,G⟩ (.string y.c)).setCell ⟨g1,3,G⟩ (.int a0 y.r))
   rw[<-g4];have b8:=h4.out;rw[<-g4]at b8;have a4:H (Fr No W1 w5):=i9.step b8.2 (λb F h=>by unfold Is at h;have:=b7.out;omega);have v3:=zh b8.1;clear g4 h4 b8 z0 z1 z2 z3 f0 f1 f2 f3 i9 b7
  all_goals (
   by_cases o0:VB=ai/\bk=f
   .obtain⟨rfl,rfl⟩:=o0;have j0:H (remF M ds (pre++[(xi,d)])=(remL d.index (cs.map strip),(remF M ds pre).2++[⟨2,PO,ZD,(),(),()⟩])):=l5.trans (bs rfl)
    gi_wp2
    refine zBb No [(0,f),(1,f),(2,f),(3,f),(4,f),(5,f),(6,ai),(7,f),(8,f),(9,f),(10,f),(11,f),(12,f),(13,f),(14,f),(15,f)] (λw6 X=>?_);have d3:=X.heap (a4.heap D1 id) id;have yp:=X.heap (a4.heap d6 id) id;have y2:=X.heap (a4.heap a6.1 id) id;have y3:=X.heap (a4.heap a6.2 id) id;have v:∀ g:Gr (No) w6,DevB g.W Bx d:=λg=>DevB.of (g.fr.heap d3 (id))
    have e0:=λg=>(v g).c0
    have e1:=λg=>(v g).c1
    have e2:=λg=>(v g).c2
    have e3:=λg=>(v g).c3
    have e4:=λg=>(v g).c4
    have e5:=λg=>(v g).c5
    have e6:=λg=>(v g).c6
    have e7:=λg=>(v g).c7
    have e8:=λg=>(v g).c8
    have e9:=λg=>(v g).c9
    have x2:∀ g:Gr (No) w6,g.W ⟨w,0,G⟩=E (ak (E ⟨u,0,G⟩)):=λg=>zB (g.fr.heap y2 (id)) 0
    have x3:∀ g:Gr (No) w6,g.W ⟨(w:C)+1,0,G⟩=E (.map (E mb)):=λg=>zB (g.fr.heap y3 (id)) 0
    have x0:∀ g:Gr (No) w6,g.W ⟨u,0,G⟩=E (.slice a1 cs c1):=λg=>zB (g.fr.heap yp (id)) 0
    have j1:=zh (a4.step X zi);clear v d3 yp y2 y3 X;(repeat(first|apply zR rfl rfl rfl|apply zT rfl rfl rfl);intro K Z;go_big_quiet_op;go_big_quiet_on);clear e0 e1 e2 e3 e4 e5 e6 e7 e8 e9 x0 x2 x3;apply zu rfl;go_wp2_with fail;apply (p4 w6 j1).mono;rintro e w7 ⟨rfl,g5⟩;have g6:=zh (j1.step g5 zi);go_wp2_with fail;apply zm g5;clear g5;(repeat(first|apply zR rfl rfl rfl|apply zT rfl rfl rfl);intro K Z;go_big_quiet_op;go_big_quiet_on);apply zb
    gi_upto_region 5 with(fail)
    refine zBb No [(0,f),(1,f),(2,f),(3,f),(4,f),(5,f),(6,ai),(7,f),(8,f),(9,f),(10,f),(11,f)] (λw8 Y=>?_);have d3:=Y.heap (g6.heap D1 id) id;have yp:=Y.heap (g6.heap d6 id) id;have y2:=Y.heap (g6.heap a6.1 id) id;have x0:∀ g:Gr No w8,g.W ⟨u,0,G⟩=E (.slice a1 cs c1):=λg=>zB (g.fr.heap yp id) 0
    have x2:∀ g:Gr No w8,g.W ⟨w,0,G⟩=E (ak (E ⟨u,0,G⟩)):=λg=>zB (g.fr.heap y2 id) 0
    have e0:∀ g:Gr No w8,g.W ⟨Bx,0,G⟩=E (.int a0 d.index):=λg=>zB (g.fr.heap d3 id) 0
    have p7:=zh (g6.step Y zi);clear d3 yp y2 Y;(repeat(first|apply zR rfl rfl rfl|apply zT rfl rfl rfl);intro K Z;go_big_quiet_op;go_big_quiet_on);clear e0 x0 x2;apply zu rfl;go_wp2_with fail;apply (v1 w8 p7).mono;rintro e w9 ⟨rfl,d8⟩;have v4:=zh (p7.step d8 zi);go_wp2_with fail;apply zm d8;clear d8;(repeat(first|apply zR rfl rfl rfl|apply zT rfl rfl rfl);intro K Z;go_big_quiet_op;go_big_quiet_on);apply zb
    gi_upto_region 6 with(fail)
    refine zCS 11 (λb=>(aj ao J co).ownBlock=E b) (.q 0 (.q 1 (.q 2 (.q 3 (.q 4 (.q 5 (.q 6 (.m1 7 (.m1 8 (.m1 9 (.q 10 (.m1 11 .fin)))))))))))) _ (λW3 b6=>?_) zj;have j2:=zh (v4.step b6 zi);clear b6;have k7:=j2.heap d6 id;have g9:=zG b0 j2 (λ_ _=>id);have n7:=zK g9 k7 (by decide);have g3:=j2.heap a6.1 id;have n3:=zK g9 g3 (by decide);have t7:∀ g:Gr (λb=>(aj ao J co).ownBlock=E b) W3,g.W ⟨u,1,G⟩=E (.slice ao J co):=λg=>zB (g.fr.heap k7 n7) 1
    have t3:∀ g:Gr (λb=>(aj ao J co).ownBlock=E b) W3,g.W ⟨w,0,G⟩=E (ak (E ⟨u,0,G⟩)):=λg=>zB (g.fr.heap g3 n3) 0
    have s3:=j2.size;clear g3 n3;(repeat apply tx_q rfl rfl rfl;intro K Z;go_big_quiet_op;go_big_quiet_on);clear t7 t3;have al:=(av No W3).alloc (af (ocs 2 (PO) ZD () ()) 72);have l6:=zG g9 al (λ_ _=>id);have k5:=al.heap k7 id;have p8:=zh al;clear g9 k7 al;apply zBG rfl;go_wp2_with fail;refine bc ⟨λ_=>p8.mono zn,?_⟩;apply zBG rfl;go_wp2_with (at_builtin;refine cp _ rfl _ _ 79 rfl rb 72 i0 (ag #[.int a0 0,.string am,.int a0 0,.int a0 0,.string am,.string am,.string am,.string am,.string am,.int a0 0,.int a0 0,.slice G 0 0,.string am,.string am]) 14 192 cn r6 r7 r8 r9 rfl (by decide) _ _ _ rfl l6 ⟨W3,0,G⟩ 1 1 (ocs 2 (PO) ZD () ()).toList rfl rfl (zl _ (ocs 2 (PO) ZD () ()) _ rfl) (zDG _ _ _ _ _) (by unfold az;omega) (by omega) (by have:=s9.out;rw[ce];omega) ?_;intro v' w6 h0 p9 _ v5;obtain⟨b9,d0,rfl⟩:=zI h0)
    have gf:Fr (λb=>(aj ao J co).ownBlock=E b) (W3.alloc (af (ocs 2 (PO) ZD () ()) 72)) w6:=Fr.of_grown p9;apply zf gf;have k6:=gf.heap k5 n7;have n6:=zK h0 k6 (by decide);have t7:w6 ⟨u,1,G⟩=E (.slice ao J co):=zB k6 1;have f7:w6.frozen? ⟨u,1,G⟩=false:=zD k6 1;have x8:Fr (Is u) w6 (w6.setCell ⟨u,1,G⟩ (.slice b9 (J+1) d0)):=bh (av _ _) _;have k8:(w6.setCell ⟨u,1,G⟩ (.slice b9 (J+1) d0)).heap[u]?=E (af #[.slice a1 cs c1,.slice b9 (J+1) d0] 117):=zE k6 1 (.slice b9 (J+1) d0);have l7:=zG h0 x8 (λb F h=>n6 (by unfold Is at h;rw[<-h];exact F));have ff:Fr (λb=>b=u\/(aj ao J co).ownBlock=E b) W1 (w6.setCell ⟨u,1,G⟩ (.slice b9 (J+1) d0)):=(((j2.step p8 zi).mono zn).step gf (λb _ h=>.inr h)).step x8 (λb _ h=>.inl h);have HR:=zg3 k8 l7 ff;obtain⟨WZ,o1⟩:=ε (w6.setCell ⟨u,1,G⟩ (.slice b9 (J+1) d0))
    rw[<-o1]at HR;clear l6 h0 p9 gf k5 k6 k8 x8 ff n6 n7 v5 l7;apply zBG rfl;go_wp2_with fail;refine bc ⟨λ_=>av _ _,?_⟩;(repeat apply tx_q rfl rfl rfl;intro K Z;go_big_quiet_op;go_big_quiet_on);apply zBG rfl;go_wp2_with fail;refine bc ⟨λh=>(h rfl).elim,?_⟩;apply zGU;rw[<-o1];clear o1 t7 f7
    gi_upto_region 7 with(fail)
    have v6:H (Tr WZ I a1 c1 cs):=l0.foot HR.2.2 (λb F h=>h.elim (i4.ne F d6 (by decide) (by decide)) (i4.ne_own F b0));have o2:¬ (Bx=u\/(aj ao J co).ownBlock=E Bx):=λh=>s8 (h.elim .inl (λh=>.inr (.inl h)))
    have r0:¬ ((w:C)=u\/(aj ao J co).ownBlock=E (w:C)):=λh=>h.elim (λh=>by omega) (zK b0 a6.1 (by decide))
    refine zCJ (Is u) (.q 0 (.q 1 (.q 2 (.q 3 (.q 5 (.q 6 (.m1 4 (.m1 7 (.q 8 (.q 9 (.q 10 (.q 11 (.q 12 (.m1 13 .fin)))))))))))))) _ (λw8 Y=>?_) zj;have d3:=Y.heap (HR.2.2.heap D1 o2) id;have yp:=Y.heap HR.1 id;have y2:=Y.heap (HR.2.2.heap a6.1 r0) id;have x0:w8 ⟨u,0,G⟩=E (.slice a1 cs c1):=zB yp 0;have x2:∀ g:Gr (Is u) w8,g.W ⟨w,0,G⟩=E (ak (E ⟨u,0,G⟩)):=λg=>zB (g.fr.heap y2 (λh=>by omega)) 0
    have e0:∀ g:Gr (Is u) w8,g.W ⟨Bx,0,G⟩=E (.int a0 d.index):=λg=>zB (g.fr.heap d3 (λh=>o2 (.inl h))) 0
    have r1:=v2.out w8 (v6.out.no Y);have H8:=zg2 Y yp;have y5:u<(w8:C):=zC yp;have y6:(W1:C)<=(w8:C):=(by have:=HR.2.2.size;have:=Y.size;omega);clear d3 y2 Y yp r0;(repeat apply zL rfl rfl rfl;intro K Z;go_big_quiet_op;go_big_quiet_on);clear e0 x2 o2;apply zH rfl;go_wp2_with fail;apply zq;clear x0;apply zH rfl;go_wp2_with fail;apply r1.mono;rintro e w9 ⟨⟨a',c',a2,rfl,hD,r2,j3,b1⟩,d8⟩;have k9:=d8.heap H8.2 id;have t9:w9 ⟨u,0,G⟩=E (.slice a1 cs c1):=zB k9 0;have f9:w9.frozen? ⟨u,0,G⟩=false:=zD k9 0;have x9:Fr (Is u) w9 (w9.setCell ⟨u,0,G⟩ (.slice a' a2 c')):=bh (av _ _) _;have kE:(w9.setCell ⟨u,0,G⟩ (.slice a' a2 c')).heap[u]?=E (af #[.slice a' a2 c',.slice b9 (J+1) d0] 117):=zE k9 0 _;have F9:Fr No WZ w9:=H8.1.step d8 zi;have j4:=zG HR.2.1 F9 (λ_ _=>id);have n9:=zK j4 k9 (by decide);have j5:=zG j4 x9 (λb F h=>n9 (by unfold Is at h;rw[<-h];exact F));have j6:a2.map strip=(remF M ds (pre++[(xi,d)])).1:=by
     rw[j0,b1.strip,zIZ]
    have l8:TreeWf a2:=a9.2.2.2 a2 j6;have l9:CtO w9 a2 ct:=((l4.out.fr (HR.2.2.step H8.1 zn) (λx hx ad e h=>h.elim (i4.ne (.inr ⟨x,hx,ad,e,rfl⟩) d6 (by decide) (by decide)) (i4.ne_own (.inr ⟨x,hx,ad,e,rfl⟩) b0))).sub (λx hx=>(List.mem_filter.1 hx).1)).cop b1;have j7:∀ b,TrF a' a2 b->(w8:C)<=b:=λb F=>by
     rcases F with⟨ad,e,rfl⟩|⟨x,hx,ad,e,rfl⟩
     .exact j3 ad e
     .obtain⟨z,_,hz⟩:=b1.mem hx;exact hz.fresh ad e
    have r3:TrT w9 a' a2:=λb F=>by
     rcases F with⟨ad,e,rfl⟩|⟨x,hx,ad,e,rfl⟩
     .obtain⟨x,hx⟩:=r2 ad e;exact⟨x,_,hx,.inl rfl⟩
     .obtain⟨z,_,hz⟩:=b1.mem hx;obtain⟨x,hx⟩:=hz.typ ad e;exact⟨x,_,hx,.inr rfl⟩
    have b5:∀ b,TrF a' a2 b->¬ Is u b:=λb F h=>by have:=j7 b F;omega
    have r4:Tr w9 I a' c' a2:=b1.tr (λx hx=>by have h:=(List.mem_filter.1 hx).1;exact⟨(l0.el x h).sz,(l0.el x h).drv⟩) hD l8 j3 (by omega);have U:=zh (au kE (au (r4.foot x9 b5) (au j6 (au j5 (au (r3.fr x9 b5) (au j7 (au ((HR.2.2.step F9 zn).step x9 (λb _ h=>.inl h)) (l9.fr x9 (λx hx ad e=>b5 _ (.inr ⟨x,hx,ad,e,rfl⟩))))))))));have j8:∀ b,(aj b9 (J+1) d0).ownBlock=E b->rb<=b:=λb h=>(zAF j5 h).1
    have j9:∀ b,(aj ao J co).ownBlock=E b->rb<=b:=λb h=>(zAF b0 h).1
    have HO:=zg2 j8 j9;clear hD r2 j3 b1 k9 kE F9 j4 n9 j5 j6 l8 j7 r3 b5 r4 j8 j9 r1 l9;go_wp2_with fail;apply zm d8;clear d8;(repeat apply zL rfl rfl rfl;intro K Z;go_big_quiet_op;go_big_quiet_on);apply zH rfl;have X9:=zh x9;clear x9;go_wp2_with fail;apply zf X9;apply zW
    gi_wp2
    have v7:J+1=(remF M ds (pre++[(xi,d)])).2.length:=(by rw[j0.out,bu];have:=a9.1;simp;omega);refine⟨_,?_,⟨⟨a',c',a2,b9,J+1,d0,v7,U.1,U.2.1,U.2.2.1,by rw[j0,zFt];exact U.2.2.2.1,U.2.2.2.2.1,rfl,U.2.2.2.2.2.2.2⟩,HI.step U.2.2.2.2.2.2.1 (λb F h=>?_)⟩,U.2.2.2.2.2.2.1.mono (λb _ h=>h.elim .inl (λh=>.inr (.inl h)))⟩
    .rintro b (h|h|h);·exact .inl (.inl h)
     .exact .inr (by have:=HO.1 b h;omega)
     .exact .inr (by have:=U.2.2.2.2.2.1 b h.2;omega)
    .rcases h with h|h
     .exact .inl h
     .exact .inr (by have:=HO.2 b h;omega)
   .have r5:VB=f\/VB=ai/\bk=true:=by
     revert o0;cases VB<;>cases bk<;>simp
    have o3:H (remF M ds (pre++[(xi,d)])=remF M ds pre):=by
     unfold H;rw[l5.out,br (by rcases r5 with rfl|⟨rfl,rfl⟩<;>simp)]
    clear o0;rcases r5 with rfl|⟨rfl,rfl⟩
    all_goals (
     gi_wp2
     refine zBb No [(0,f),(1,f),(2,f),(3,f),(4,f),(5,f),(6,ai),(7,f),(8,f),(9,f),(10,f),(11,f),(12,f),(13,f),(14,f),(15,f)] (λw6 X=>?_);have d3:=X.heap (a4.heap D1 id) id;have yp:=X.heap (a4.heap d6 id) id;have y2:=X.heap (a4.heap a6.1 id) id;have y3:=X.heap (a4.heap a6.2 id) id;have v:∀ g:Gr (No) w6,DevB g.W Bx d:=λg=>DevB.of (g.fr.heap d3 (id))
     have e0:=λg=>(v g).c0
     have e1:=λg=>(v g).c1
     have e2:=λg=>(v g).c2
     have e3:=λg=>(v g).c3
     have e4:=λg=>(v g).c4
     have e5:=λg=>(v g).c5
     have e6:=λg=>(v g).c6
     have e7:=λg=>(v g).c7
     have e8:=λg=>(v g).c8
     have e9:=λg=>(v g).c9
     have x2:∀ g:Gr (No) w6,g.W ⟨w,0,G⟩=E (ak (E ⟨u,0,G⟩)):=λg=>zB (g.fr.heap y2 (id)) 0
     have x3:∀ g:Gr (No) w6,g.W ⟨(w:C)+1,0,G⟩=E (.map (E mb)):=λg=>zB (g.fr.heap y3 (id)) 0
     have x0:∀ g:Gr (No) w6,g.W ⟨u,0,G⟩=E (.slice a1 cs c1):=λg=>zB (g.fr.heap yp (id)) 0
     have j1:=zh (a4.step X zi);clear v d3 yp y2 y3 X;(repeat(first|apply zR rfl rfl rfl|apply zT rfl rfl rfl);intro K Z;go_big_quiet_op;go_big_quiet_on);clear e0 e1 e2 e3 e4 e5 e6 e7 e8 e9 x0 x2 x3;apply zu rfl;go_wp2_with fail;apply (p4 w6 j1).mono;rintro e w7 ⟨rfl,g5⟩;have g6:=zh (j1.step g5 zi);go_wp2_with fail;apply zm g5;clear g5;have e7:∀ g:Gr No w7,g.W ⟨Bx,7,G⟩=E (.int a0 d.kind):=λg=>zB (g.fr.heap (g6.heap D1 id) id) 7
     (repeat(first|apply zR rfl rfl rfl|apply zT rfl rfl rfl);intro K Z;go_big_quiet_op;go_big_quiet_on);apply zb
     gi_wp2
     have g7:=zh g6;refine⟨_,λb h=>.inl h,⟨⟨a1,c1,cs,ao,J,co,by rw[o3];exact a9.1,g7.heap d6 id,l0.out.no g7,by rw[o3];exact a9.2.1,by rw[o3];exact zG b0 g7 (λ_ _=>id),i4.out.fr g7 (λ_ _=>id),rfl,l4.out.no g7⟩,HI.step g7 zn⟩,g7.mono zn⟩
     )
   )
structure SetI (pb rb base:C)(w:ar)(M:B Vir)(ds:B Dev)(ct:ab->ah)(ops:B OpA)(S:C->Prop)(j:C)(W:ar):Prop where
 st:∃ (a1:aw ax) (c1:C) (cs:B Dev) (ao:aw ax) (no co:C),no=(setF M ds ct ops j).2.length/\W.heap[pb]?=E (af #[ae a1 cs c1,ae ao no co] 117)/\Tr W base a1 c1 cs/\cs.map strip=ds.map strip/\W.ownsRow rb 72 14 (ae ao no co) no (opF (setF M ds ct ops j).2)/\TrT W a1 cs/\CtO W cs (setF M ds ct ops j).1/\∀ b,(aj ao no co).ownBlock=E b->S b\/(w:C)<=b
 fr:Fr S w W
theorem zLm (z:TreeOk ds)(v:ds[k]?=E d):fidx (λy=>y.index==d.index) ds=(k:ab):=by
 refine zH1 _ ds k d v (by simp) λy A=>?_
 obtain⟨i,u⟩:=cg A;have o:i<k:=by
  have h:=(List.getElem?_eq_some_iff.1 u).1;rw[ci]at h;omega
 rw[List.getElem?_take_of_lt o]at u;have F:(ds.map bn)[i]?=E y.index:=by rw[bi,u];rfl
 have I:(ds.map bn)[k]?=E d.index:=by rw[bi,v];rfl
 obtain⟨J,N⟩:=List.getElem?_eq_some_iff.1 F;obtain⟨O,U⟩:=List.getElem?_eq_some_iff.1 I;have:=List.pairwise_iff_getElem.1 z.nd i k J O o;rw[N,U]at this
 simpa using this
theorem zPz (U mb rb V:C)(a:aw ax)(m4:C)(ds:B Dev)(M:B Vir)(ct:ab->ah)(J:B OpA)(g6:aw ax)(b4 g7:C)(N:C)(w:ar)(hl:Tr w V a m4 ds)(hn:(ds:C)<=250)(j0:b4<=1000)(hE:Env w)(p0:TrT w a ds)(hC:CtO w ds ct)(hK:SetOk M ds ct)
  (j4:w.heap[U]?=E (af #[ae a ds m4,ae g6 b4 g7] 117)) (a5:w.ownsRow rb 72 14 (ae g6 b4 g7) b4 (opF J)) (p2:b4=(J:C)) (hQ:QMap w mb (wantG M) N) (D6:U≠mb) (v3:V<=(w:C)) (v4:rb<=(w:C)) (J9:9<=rb) (L0:8<U):
  ba ap 50 #[ak (E ⟨U,0,G⟩),.map (E mb)] w λe w'=>e=.returned (.tuple #[])/\SetI U rb V w M ds ct J (λb=>b=U\/(aj g6 b4 g7).ownBlock=E b) (ds:C) w':=by
 obtain⟨i0,D7,p3,D8,F0⟩:=info_parts infoOp;obtain⟨S,hS⟩:∃ S:C->Prop,S=λb=>b=U\/(aj g6 b4 g7).ownBlock=E b:=⟨_,rfl⟩
 rw[<-hS];have t0:w ⟨U,0,G⟩=E (ae a ds m4):=zB j4 0;have L3:=hl.dv.lenmax;have HN:=zg3 hn j0 p2;have F1:=zh hK;have v7:=zh p0;have v9:=zh hC;have w1:=zg2 v3 v4;have a2:=zg2 a5 hS;have HA:=zg4 hl hE j4 hQ;have w2:H (SetI U rb V w M ds ct J S 0 w):=⟨⟨a,m4,ds,g6,b4,g7,p2,j4,hl,rfl,a5,p0,hC,λb I=>.inl (by rw[hS];exact .inr I)⟩,av _ _⟩
 have L4:=zC j4;clear hl hn hE j4 hQ hK p0 hC a5 p2 j0 v3 v4 hS;go_enter Tryz.func50,Tryz.ntmps50;go_wp2_with fail;clear t0;go_loopw [17] (λx wr=>∃ (j:C),j<=(ds:C)/\x=aq a0 (j:ab)/\H (SetI U rb V w M ds ct J S j wr)) (λx _=>(ds:C)-(be x).toNat);case atStart=>exact⟨0,by omega,rfl,w2⟩
 case round=>
  obtain⟨j,hj,rfl,g8⟩:=hrel;by_cases F2:j<(ds:C)
  .have w3:(j:ab)<(ds:C):=by omega
   have hf:=g8.out.fr;have p4:∀ b,TrF a ds b->¬ S b:=λb I h=>by
    rw[a2.2]at h;exact h.elim (v7.ne I HA.2.2.1 (by decide) (by decide)) (v7.ne_own I a2.1)
   have d5:=HA.1.foot hf p4;obtain⟨bb,L5,d,F3,hd,c0,c1,c2,c3,c4,c5,c6,c7,c8,c9⟩:=d5.dv.dev F2;have a6:=bj hd;obtain⟨W1,p5,a7,d1⟩:=zy wr (af d.vals 48);have L6:=hf.size;have D1:=zh d1;have w4:H ((wr:C)<(W1:C)):=zC d1;have w9:∀ b,b<(w:C)->S b->b=U\/(aj g6 b4 g7).ownBlock=E b:=λb _ h=>by rw[a2.2]at h;exact h
   have x1:∀ b,b<9->¬ S b:=λb I h=>by
    have h9:=HA.2.1.sz;rcases w9 b (by omega) h with h|h
    .omega
    .have:=(zAF a2.1 h).1;omega
   have x2:¬ S mb:=λh=>by
    rw[a2.2]at h;exact h.elim (λh=>D6 h.symm) (HA.2.2.2.ne_own a2.1)
   obtain⟨a1,k1,cs,ao,no,co,j0,x4,x5,b5,a5,j5,x6,x7⟩:=g8.st;have p8:=zh x7;have x9:=HA.2.1.fr hf x1;have p9:=HA.2.2.2.fr hf x2;have r0:Atts wr d.aa d.ac (cAtt (ct d.index))/\d.an=(cAtt (ct d.index)).length:=⟨(v9 d a6).1.fr hf (λad e _=>p4 _ (.inr ⟨d,a6,ad,e,rfl⟩)),(v9 d a6).2⟩
   have y2:(cs:C)=(ds:C):=(by have:=bq bw b5;simpa using this);have j6:=F1.out d a6;have L7:no<=1250:=(by have:=zIU M ds ct J j;have:=HN.out;omega);have j7:=zh (a7.heap x4 id);have a8:=zh (x5.no a7);have r1:=zh (x9.no a7);have y3:H (∀ W,Fr No W1 W->QMap W mb (wantG M) N):=λW hW=>(p9.fr a7 id).fr hW id
   have r2:H (mb<(W1:C)/\U<(W1:C)):=⟨(p9.fr a7 id).lt,zC j7⟩
   have m5:=zg2 (r0.1.no a7 (λ_=>id)) r0.2;have A:=zh (au j0 (au b5 (au (zG a5 a7 (λ_ _=>id)) (au (j5.fr a7 (λ_ _=>id)) (au (x6.no a7) (au y2 (au j6 (au hd (g8.out.fr.step a7 zn)))))))));have j8:H ((∀ b,TrF a1 cs b->b<(wr:C))/\∀ b,(aj ao no co).ownBlock=E b->b<(wr:C)):=⟨λb I=>j5.lt I,λb I=>(zAF a5 I).2⟩
   obtain⟨P,hP⟩:=ε (plc ds d.parent)
   obtain⟨xo,m6⟩:=ε d.orig
   obtain⟨VB,r3⟩:=ε (virB ds d.index)
   obtain⟨PO,y4⟩:=ε (plc ds d.index)
   obtain⟨tx,r4⟩:=ε (ct d.index)
   have r7:H (∀ W,Fr No W1 W->ba ap 88 #[ag #[ae a1 cs k1],ag d.vals] W λe w'=>e=.returned (ag #[P,xo])/\Fr No W w'):=λW hW=>by
    have hT:=a8.out.no hW;have e1:P=plc cs d.parent:=(by rw[hP,<-zAH,<-b5,zAH]);rw[e1,m6];exact zID a1 k1 cs d W hT.dv hT.wf.ok (by have:=HN.out;omega) (d5.wf.ok.pwf a6)
   have m7:H (P.size<=az/\xo.size<=az):=by
    rw[hP,m6];have h1:=zBp d5.wf.ok HN.1 d.parent;have h2:=d5.wf.ok.sz d a6;refine⟨?_,?_⟩<;>unfold az<;>omega
   have F4:H (∀ W,Fr No W1 W->ba ap 11 #[ag #[ae a1 cs k1],d.index] W λe w'=>e=.returned VB/\Fr No W w'):=λW hW=>by
    have e1:VB=virB cs d.index:=(by rw[r3,<-zAM,<-b5,zAM]);rw[e1];exact zC6 a1 k1 cs V d.index W (a8.out.no hW) (r1.out.no hW).err
   have y5:H (∀ W,Fr No W1 W->ba ap 90 #[ag d.vals] W λe w'=>e=.returned tx/\Fr No W w'):=λW hW=>by
    have:=zMO d (cAtt (ct d.index)) W (m5.1.no hW (λ_=>id)) m5.2;rw[show getP (cAtt (ct d.index)) zAQ=tx from by rw[r4];exact zCs _]at this;exact this
   obtain⟨y,hy,y6⟩:=zOR M (P,xo);have HY:=zg7 hy y6 hP m6 r3 y4 r4;unfold bg at p5 r7 y5;clear y2 hd d1 hf a7 p4 d5 w9 x1 x2 j0 x4 x5 b5 a5 j5 x6 x7 x9 p9 r0 j6 a6 hP m6 r3 y4 r4 hy y6;subst F3;go_upto_region 3 with(fail)
   rw[<-p5];clear p5 c0 c1 c2 c3 c4 c5 c6 c7 c8 c9;go_cut [6] (λp6 wx=>∃ a9,p6=ak (E ⟨a9,0,G⟩)/\H (wx.heap[a9]?=E (af #[y.q,y.o,y.c,y.r] 52)/\(W1:C)<=a9)/\H (Fr No W1 wx));case first=>
    refine zZ (From (W1:C)) (.q 0 (.q 1 (.q 2 (.q 3 (.q 4 (.q 5 (.m2 6 (.q 7 (.m1 8 (.m1 9 .fin))) 8 (.m1 6 (.q 7 (.m1 9 .fin)))))))))) _ (λW3 m8=>?_) zj;have d3:=m8.heap D1 id;have x3:=m8.heap j7 id;have O:∀ g:Gr (From (W1:C)) W3,DevB g.W (wr:C) d:=λg=>DevB.of (g.fr.heap d3 (by unfold From;have:=w4.out;omega))
    have e0:=λg=>(O g).c0
    have e1:=λg=>(O g).c1
    have e2:=λg=>(O g).c2
    have e3:=λg=>(O g).c3
    have e4:=λg=>(O g).c4
    have e5:=λg=>(O g).c5
    have e6:=λg=>(O g).c6
    have e7:=λg=>(O g).c7
    have e8:=λg=>(O g).c8
    have e9:=λg=>(O g).c9
    have x0:∀ g:Gr (From (W1:C)) W3,g.W ⟨U,0,G⟩=E (ae a1 cs k1):=λg=>zB (g.fr.heap x3 (by unfold From;have:=r2.out;omega)) 0
    have m9:=zh m8;clear O d3 x3 m8;(repeat(first|apply zL rfl rfl rfl|apply zJ rfl rfl rfl);intro K hK;go_big_quiet_op;go_big_quiet_on);clear e0 e1 e2 e3 e4 e5 e6 e7 e8 e9 x0;refine zAB rfl rfl ?_ ?_
    focus
     go_wp2_with fail;apply (r7 W3 m9).mono;rintro e Wc ⟨rfl,d0⟩;go_wp2_with fail;apply zm d0;have g9:=zh (m9.step d0 zi);have j9:∀ W,(∃ g:Gr (From (W1:C)) Wc,W=g.W)->(bv 83 (.map (E mb)) (ag #[P,xo]) f).run ap W=.ok (ag #[y.q,y.o,y.c,y.r]) W:=λW hW=>by
      obtain⟨g,rfl⟩:=hW;have:=((y3 _ g9).fr g.fr (by unfold From;have:=r2.out;omega)).look (zDr g.W) cb m7.1 m7.2;rw[this,HY.1]
     apply zL rfl rfl rfl;intro K hK;refine zB5 rfl _ _ 83 rfl (.map (E mb)) (ag #[P,xo]) _ rfl rfl j9 ?_
     go_frame
     go_big_quiet_on;clear j9;clear d0;apply zH rfl;obtain⟨Wa,k0,l0,qa⟩:=zy Wc (af #[(),(),(),aq a0 0] 52);go_wp2_with fail;apply zp;rw[<-k0];clear k0;have l4:H (Fr No W1 Wa):=g9.step l0 zi;have b0:H ((W1:C)<=(Wc:C)):=g9.size;have qz:=qa;clear l0 qa;obtain⟨a9,hB⟩:=ε (Wc:C)
     rw[<-hB]at qz b0 ⊢;clear hB;obtain⟨z0,z1,z2,z3⟩:=cl4 qz;obtain⟨f0,f1,f2,f3⟩:=fl4 qz;have h4:=zh (set4 qz rfl (ay y.q) (ay y.o) (ay y.c) (aq a0 y.r));clear qz;apply zH rfl;go_wp2_with fail;refine bc ⟨h4.2.mono (λb _ h=>by unfold Is at h;unfold From;have:=b0.out;omega),?_⟩;apply zW;obtain⟨w5,d6⟩:=ε ((((Wa.setCell ⟨a9,0,G⟩ (ay y.q)).setCell ⟨a9,1,G⟩ (ay y.o)).setCell ⟨a9,2,G⟩ (ay y.c)).setCell ⟨a9,3,G⟩ (aq a0 y.r))
     rw[<-d6];have b6:=h4.out;rw[<-d6]at b6;have d8:H (Fr No W1 w5):=l4.step b6.2 (λb I h=>by unfold Is at h;have:=b0.out;omega);have y7:=zh b6.1;have y8:=b0;clear d6 h4 b6 z0 z1 z2 z3 f0 f1 f2 f3 l4 b0
    rotate_left 1
    focus
     obtain⟨Wa,k0,l0,qa⟩:=zy W3 (af #[(),(),(),aq a0 0] 52);go_wp2_with fail;apply zp;rw[<-k0];clear k0;have l5:=zh (m9.step l0 zi);clear l0;apply zH rfl;go_wp2_with fail;apply (r7 Wa l5).mono;rintro e Wc ⟨rfl,d0⟩;go_wp2_with fail;apply zm d0;have qb:=d0.heap qa id;clear qa;have g9:=zh (l5.step d0 zi);have j9:∀ W,(∃ g:Gr (From (W1:C)) Wc,W=g.W)->(bv 83 (.map (E mb)) (ag #[P,xo]) f).run ap W=.ok (ag #[y.q,y.o,y.c,y.r]) W:=λW hW=>by
      obtain⟨g,rfl⟩:=hW;have:=((y3 _ g9).fr g.fr (by unfold From;have:=r2.out;omega)).look (zDr g.W) cb m7.1 m7.2;rw[this,HY.1]
     apply zL rfl rfl rfl;intro K hK;refine zB5 rfl _ _ 83 rfl (.map (E mb)) (ag #[P,xo]) _ rfl rfl j9 ?_
     go_frame
     go_big_quiet_on;clear j9;clear d0;have l4:H (Fr No W1 Wc):=g9.out;have b0:H ((W1:C)<=(W3:C)):=m9.size;have qz:=qb;clear qb;obtain⟨a9,hB⟩:=ε (W3:C)
     rw[<-hB]at qz b0 ⊢;clear hB;obtain⟨z0,z1,z2,z3⟩:=cl4 qz;obtain⟨f0,f1,f2,f3⟩:=fl4 qz;have h4:=zh (set4 qz rfl (ay y.q) (ay y.o) (ay y.c) (aq a0 y.r));clear qz;apply zH rfl;go_wp2_with fail;refine bc ⟨h4.2.mono (λb _ h=>by unfold Is at h;unfold From;have:=b0.out;omega),?_⟩;apply zW;obtain⟨w5,d6⟩:=ε ((((Wc.setCell ⟨a9,0,G⟩ (ay y.q)).setCell ⟨a9,1,G⟩ (ay y.o)).setCell ⟨a9,2,G⟩ (ay y.c)).setCell ⟨a9,3,G⟩ (aq a0 y.r))
     rw[<-d6];have b6:=h4.out;rw[<-d6]at b6;have d8:H (Fr No W1 w5):=l4.step b6.2 (λb I h=>by unfold Is at h;have:=b0.out;omega);have y7:=zh b6.1;have y8:=b0;clear d6 h4 b6 z0 z1 z2 z3 f0 f1 f2 f3 l4 b0
    all_goals (
     go_wp2;go_meet;exact⟨a9,rfl,⟨y7,y8⟩,d8⟩
     )
   case rest=>
    obtain⟨a9,rfl,HB,d8⟩:=hcut;obtain⟨W5,rfl⟩:=ε wc
    go_upto_region 4 with(fail)
    go_cut [43] (λv wx=>v=.bool (!VB||(tx.toList==y.c.toList))/\H (Fr No W5 wx));case first=>
     refine zO No [(0,f),(1,f),(2,f),(3,f),(4,f),(5,f),(6,ai),(7,f),(8,f),(9,f),(11,f),(12,f),(10,ai),(13,f),(14,f)] (λw6 l6=>?_);have d3:=l6.heap (d8.heap D1 id) id;have x3:=l6.heap (d8.heap j7 id) id;have e0:∀ g:Gr No w6,g.W ⟨wr,0,G⟩=E (aq a0 d.index):=λg=>zB (g.fr.heap d3 id) 0
     have x0:∀ g:Gr No w6,g.W ⟨U,0,G⟩=E (ae a1 cs k1):=λg=>zB (g.fr.heap x3 id) 0
     have z4:=zh (d8.step l6 zi);have F5:=zh l6;clear d3 x3 l6;(repeat(first|apply zR rfl rfl rfl|apply zT rfl rfl rfl);intro K hK;go_big_quiet_op;go_big_quiet_on);clear e0 x0;apply zu rfl;go_wp2_with fail;apply (F4 w6 z4).mono;rintro e w7 ⟨rfl,b8⟩;have z5:=zh (z4.step b8 zi);have r8:=zh (F5.step b8 zi);go_wp2_with fail;apply zm b8;clear b8;cases VB
     .repeat((first|apply zR rfl rfl rfl|apply zT rfl rfl rfl);intro K hK;go_big_quiet_op;go_big_quiet_on)
      apply zu rfl;go_wp2_with fail;apply zq;(repeat(first|apply zR rfl rfl rfl|apply zT rfl rfl rfl);intro K hK;go_big_quiet_op;go_big_quiet_on);apply zb;go_wp2;go_meet;exact⟨rfl,r8⟩
     .have b7:=r8.heap HB.1 id;have d7:=z5.heap D1 id;have z2:∀ g:Gr No w7,g.W ⟨a9,2,G⟩=E (ay y.c):=λg=>zB (g.fr.heap b7 id) 2
      have O:∀ g:Gr No w7,DevB g.W (wr:C) d:=λg=>DevB.of (g.fr.heap d7 id)
      have e0:=λg=>(O g).c0
      have e1:=λg=>(O g).c1
      have e2:=λg=>(O g).c2
      have e3:=λg=>(O g).c3
      have e4:=λg=>(O g).c4
      have e5:=λg=>(O g).c5
      have e6:=λg=>(O g).c6
      have e7:=λg=>(O g).c7
      have e8:=λg=>(O g).c8
      have e9:=λg=>(O g).c9
      clear O;(repeat(first|apply zR rfl rfl rfl|apply zT rfl rfl rfl);intro K hK;go_big_quiet_op;go_big_quiet_on);clear z2 e0 e1 e2 e3 e4 e5 e6 e7 e8 e9;apply zu rfl;go_wp2_with fail;apply (y5 w7 z5).mono;rintro e w8 ⟨rfl,r9⟩;have F6:=zh (r8.step r9 zi);go_wp2_with fail;apply zm r9;clear r9;(repeat(first|apply zR rfl rfl rfl|apply zT rfl rfl rfl);intro K hK;go_big_quiet_op;go_big_quiet_on);apply zb;go_wp2;go_meet;exact⟨by simp,F6⟩
    case rest=>
     obtain⟨rfl,z6⟩:=hcut;obtain⟨W6,rfl⟩:=ε wc
     have HX:=zh (d8.step z6 zi);have o5:H (setF M ds ct J (j+1)=if (VB&&!(tx.toList==y.c.toList))=ai then (updC (setF M ds ct J j).1 d.index y.c,(setF M ds ct J j).2++[⟨3,PO,ZD,zM,y.c,()⟩])else setF M ds ct J j):=by
      unfold H;rw[zD7 A.2.2.2.2.2.2.2.1];unfold zAa;obtain⟨_,h1,h2,h3,h4,h5,h6⟩:=HY.out;rw[h1,h2,h3,h4,h5,h6]
     rcases hc:(!VB||(tx.toList==y.c.toList))with _|_
     .have n4:VB=ai/\(tx.toList==y.c.toList)=false:=by
       revert hc;cases VB<;>cases(tx.toList==y.c.toList)<;>simp
      have d9:H (setF M ds ct J (j+1)=(updC (setF M ds ct J j).1 d.index y.c,(setF M ds ct J j).2++[⟨3,PO,ZD,zM,y.c,()⟩])):=by
       unfold H;rw[o5,bs (by rw[n4.1,n4.2];rfl)]
      have j6:Sound d (cAtt y.c)/\y.c.size<=100000:=by
       obtain⟨_,h1,h2,h3,h4,h5,h6⟩:=HY.out;rw[h1,h2,h3];exact(A.2.2.2.2.2.2.1.2.2) (by rw[<-h4];exact n4.1)
      have g0:=zh j6;have F7:H (Atts W6 d.aa d.ac (cAtt tx)):=by
       have h:=m5.1.no HX (λ_=>id);rw[<-HY.2.2.2.2.2.2]at h;exact h
      have F8:H (d.an=(cAtt tx).length):=(by rw[HY.2.2.2.2.2.2];exact m5.2);have r5:=HX.heap D1 id;have r6:=z6.heap HB.1 id;clear n4 j6;have c9:W6 ⟨wr,9,G⟩=E (ae d.aa d.an d.ac):=zB r5 9;have z2:W6 ⟨a9,2,G⟩=E (ay y.c):=zB r6 2;have l7:=zPS d.aa d.ac tx y.c W6 F7 (by have:=g0.2;unfold az;omega);obtain⟨n,n5⟩:=ε ((cAtt tx).length)
      rw[F8,<-n5]at c9;rw[<-n5]at l7;have L8:=zh n5;clear n5;go_wp2_with fail;apply l7.mono;rintro e w7 ⟨⟨a3,c3,rfl,z7,F9,o6⟩,b8⟩;have u5:=b8.heap r5 id;have u6:=b8.heap r6 id;have s6:=HX.size;have L9:=w4.out;obtain⟨x,hx⟩:∃ x:Dev,x={ d with aa:=a3,an:=(cAtt y.c).length,ac:=c3 }:=⟨_,rfl⟩
      have y9:=zD u5 9;have z9:w7 ⟨wr,9,G⟩=E (ae d.aa d.an d.ac):=zB u5 9;obtain⟨Y,n8⟩:=ε (w7.setCell ⟨wr,9,G⟩ (ae a3 (cAtt y.c).length c3))
      have f8:Fr (Is (wr:C)) w7 Y:=(by rw[n8];exact bh (av _ _) _);have v5:Y.heap[(wr:C)]?=E (af x.vals 48):=(by rw[n8,hx];exact zE u5 9 _);have M0:(wr:C)<a9:=(by have:=HB.2;omega);have v6:=f8.heap u6 (λh=>by omega);have z8:=z7.fr f8 (λad e _ h=>by have:=o6 ad e;omega);have b9:=zh ((HX.step b8 zi).mono (T:=Is (wr:C)) zn |>.step f8 zi);have b2:=zg2 hx z8;have n9:=zg2 v5 v6;clear hx z8 z7 F9 o6 u5 u6 f8 l7 c9 z2 r5 r6 b8 v5 v6;go_upto_region 6 with(fail)
      rw[<-n8];clear n8 y9 z9;have d5:=a8.out;obtain⟨dn,h0,s0⟩:∃ dn,cs[j]?=E dn/\strip dn=strip d:=by
       have h:(cs.map strip)[j]?=E (strip d):=(by rw[A.2.1,bi,A.2.2.2.2.2.2.2.1];rfl);rw[bi]at h;cases hh:cs[j]? with
       | none=>rw[hh]at h;cases h
       | some z=>rw[hh]at h;exact⟨z,rfl,Option.some.inj h⟩
      have A0:U≠(wr:C):=(by omega);have A1:H (Tr Y V a1 k1 cs):=a8.foot b9 (λb I h=>by have:=j8.1 b I;omega);have s1:=zh (b9.heap j7 (λh=>A0 h));have F:x.index=dn.index/\x.parent=dn.parent/\x.name=dn.name/\x.orig=dn.orig/\x.sub=dn.sub/\x.drv=dn.drv/\x.ali=dn.ali/\x.kind=dn.kind/\x.num=dn.num:=by
       rw[b2.1];have h:=s0;obtain⟨i1,i2,i3,i4,i5,i6,i7,i8,i9,j1,j2,j3⟩:=dn;obtain⟨k1,k2,k3,k4,k5,k6,k7,k8,k9,l1,l2,l3⟩:=d;unfold strip at h;dsimp only at h;injection h with h1 h2 h3 h4 h5 h6 h7 h8 h9
       exact⟨h1.symm,h2.symm,h3.symm,h4.symm,h5.symm,h6.symm,h7.symm,h8.symm,h9.symm⟩
      have A2:=bj h0;have a4:=a8.el dn A2;have b5:strip x=strip d:=(by rw[b2.1];rfl);have A3:∀ b,b<(wr:C)->¬ Is (wr:C) b:=λb I h=>by omega
      have o0:CtO Y (cs.set j x) (updC (setF M ds ct J j).1 dn.index y.c):=CtO.set (AttOf.fr A.2.2.2.2.1 b9 (λz hz ad e=>A3 _ (j8.1 _ (.inr ⟨z,hz,ad,e,rfl⟩)))) a8.wf.ok h0 F.1 (by rw[b2.1];exact b2.2) (by rw[b2.1]);obtain⟨m,hm⟩:=r1.len;have J5:=r1.sz;have A4:=b9.cell hm (A3 _ (by have:=HA.2.1.sz;have:=g8.out.fr.size;show 0<(wr:C);omega));have s2:H (∀ W,Fr No Y W->ba ap 92 #[ag #[ae a1 cs k1],ag x.vals] W λe w'=>(∃ X Z u,e=.returned (.tuple #[ag #[ae X (u:B Dev).length Z],aq a0 0])/\TMk W w' (cs.set j x) X Z u)/\Fr No W w'):=λW hf=>by
       have I0:Sound x (cAtt y.c):=(by rw[b2.1];exact⟨g0.1.rng,g0.1.named,g0.1.same,g0.1.num,g0.1.attrs,g0.1.link⟩);have A5:cs.any (clP x)=false:=(by rw[<-A.2.2.2.2.2.2.1.2.1,<-zDQ,A.2.1,b5,zDQ]);exact(zIL a1 k1 V cs j dn x (cAtt y.c) m W (A1.out.no hf) (by have:=A.2.2.2.2.2.1;have:=HN.1;omega) h0 (by rw[F.1];exact zLm a8.wf.ok h0) ⟨F.2.1,F.2.2.2.1,F.2.2.2.2.2.2.2.1⟩ ⟨by rw[F.2.2.1];exact a4.sz.name,by rw[F.2.2.2.1];exact a4.sz.orig,by rw[F.2.2.2.2.1];exact a4.sz.sub,by rw[F.2.2.2.2.2.1];exact a4.sz.drv,by rw[F.2.2.2.2.2.2.1];exact a4.sz.ali⟩ (by rw[b2.1];exact b2.2.no hf (λ_=>id)) (zC0 y.c) (by rw[b2.1]) (by rw[b2.1];exact A.2.2.2.2.2.2.1.1) (by rw[F.2.2.2.2.2.1];exact a4.drv) I0 A5 (hf.cell A4 id) (by have:=hf.size;have:=b9.size;show 0<_;omega)).mono λe w' h=>⟨h.1.tmk,h.2⟩
      have A6:H (∀ z∈cs.set j x,∃ l,Atts Y z.aa z.ac l/\z.an=l.length):=λz hz=>⟨_,(o0 z hz).1,(o0 z hz).2⟩
      have I1:=zh o0;have g1:=zg4 h0 s0 F b5;have I2:H (∀ z∈cs.set j x,Sized z/\z.drv=()):=λz hz=>by
       rcases cj hz with h|rfl
       .exact⟨(a8.el z h).sz,(a8.el z h).drv⟩
       .exact⟨⟨by rw[F.2.2.1];exact a4.sz.name,by rw[F.2.2.2.1];exact a4.sz.orig,by rw[F.2.2.2.2.1];exact a4.sz.sub,by rw[F.2.2.2.2.2.1];exact a4.sz.drv,by rw[F.2.2.2.2.2.2.1];exact a4.sz.ali⟩,by rw[F.2.2.2.2.2.1];exact a4.drv⟩
      unfold bg at s2;have J6:=zC s1;have I3:=zC n9.1;clear A2 a4 b5 o0 hm A4 h0 s0 F d5;go_cut [7,8] (λp7 v8 wx=>∃ B' X Z u,p7=ak (E ⟨B',0,G⟩)/\v8=aq a0 0/\H (wx.heap[B']?=E (af #[ae X (bw u) Z] 39)/\TMk Y wx (cs.set j x) X Z u/\(Y:C)<=B')/\Fr No Y wx);case first=>
       refine zZ (λb=>(Y:C)<=b) (.q 0 (.q 1 (.q 2 (.q 3 (.q 4 (.m2 5 (.q 6 (.q 7 (.q 8 (.m1 9 (.m1 10 (.q 11 .fin)))))) 9 (.m1 5 (.q 6 (.q 7 (.q 8 (.m1 10 (.q 11 .fin)))))))))))) _ (λWB l8=>?_) zj;have b1:=l8.heap n9.1 id;have p1:=l8.heap s1 id;have I4:=l8.size;have t0:∀ g:Gr (λb=>(Y:C)<=b) WB,g.W ⟨U,0,G⟩=E (ae a1 cs k1):=λg=>zB (g.fr.heap p1 (λh=>by omega)) 0
       have O:∀ g:Gr (λb=>(Y:C)<=b) WB,DevB g.W (wr:C) x:=λg=>DevB.of (g.fr.heap b1 (λh=>by omega))
       have e0:=λg=>(O g).c0
       have e1:=λg=>(O g).c1
       have e2:=λg=>(O g).c2
       have e3:=λg=>(O g).c3
       have e4:=λg=>(O g).c4
       have e5:=λg=>(O g).c5
       have e6:=λg=>(O g).c6
       have e7:=λg=>(O g).c7
       have e8:=λg=>(O g).c8
       have e9:=λg=>(O g).c9
       have xB:=zh l8;clear O b1 p1 l8;(repeat(first|apply zL rfl rfl rfl|apply zJ rfl rfl rfl);intro K hK;go_big_quiet_op;go_big_quiet_on);clear t0 e0 e1 e2 e3 e4 e5 e6 e7 e8 e9;refine zAB rfl rfl ?_ ?_
       focus
        have b3:=s2.out WB xB;go_wp2_with fail;apply b3.mono;rintro e wD ⟨⟨X,Z,u,rfl,hT⟩,o1⟩;have sD:=o1.size;have XD:H (Fr No Y wD):=xB.step o1 zi;have HT:=zh (hT.src xB A6);clear b3 hT;go_wp2_with fail;apply zm o1;(repeat(first|apply zL rfl rfl rfl|apply zJ rfl rfl rfl);intro K hK;go_big_quiet_op;go_big_quiet_on);apply zH rfl;obtain⟨WC,l9,fC,qC⟩:=zy wD (af #[ae G 0 0] 39);go_wp2_with fail;apply zp;rw[<-l9];clear l9;have HF:H (Fr No Y WC/\TMk Y WC (cs.set j x) X Z u/\(Y:C)<=(wD:C)):=⟨XD.step fC zi,HT.out.no fC,by omega⟩
        clear fC o1;generalize (wD:C)=B' at *;apply zH rfl;have y0:=zD qC 0;have z0:WC ⟨B',0,G⟩=E (ae G 0 0):=zB qC 0;have fB:Fr (Is B') WC (WC.setCell ⟨B',0,G⟩ (ae X u.length Z)):=bh (av _ _) _;have HR:H ((WC.setCell ⟨B',0,G⟩ (ae X u.length Z)).heap[B']?=E (af #[ae X u.length Z] 39)/\TMk Y (WC.setCell ⟨B',0,G⟩ (ae X u.length Z)) (cs.set j x) X Z u/\(Y:C)<=B'):=⟨zE qC 0 _,HF.2.1.put fB qC (by decide) (by decide),HF.2.2⟩
        have HX:H (Fr No Y (WC.setCell ⟨B',0,G⟩ (ae X u.length Z))):=HF.1.step fB (λb I h=>by have:=HF.2.2;omega)
       rotate_left 1
       focus
        obtain⟨WC,l9,fC,qB⟩:=zy WB (af #[ae G 0 0] 39);go_wp2_with fail;apply zp;rw[<-l9];clear l9;have xC:=zh (xB.step fC zi);have b3:=s2.out WC xC;apply zH rfl;go_wp2_with fail;apply b3.mono;rintro e wE ⟨⟨X,Z,u,rfl,hT⟩,o2⟩;have qC:=o2.heap qB id;have HF:H (Fr No Y wE/\TMk Y wE (cs.set j x) X Z u/\(Y:C)<=(WB:C)):=⟨xC.step o2 zi,hT.src xC A6,I4⟩
        clear b3 hT qB fC;go_wp2_with fail;apply zm o2;clear o2;(repeat(first|apply zL rfl rfl rfl|apply zJ rfl rfl rfl);intro K hK;go_big_quiet_op;go_big_quiet_on);generalize (WB:C)=B' at *;apply zH rfl;have y0:=zD qC 0;have z0:wE ⟨B',0,G⟩=E (ae G 0 0):=zB qC 0;have fB:Fr (Is B') wE (wE.setCell ⟨B',0,G⟩ (ae X u.length Z)):=bh (av _ _) _;have HR:H ((wE.setCell ⟨B',0,G⟩ (ae X u.length Z)).heap[B']?=E (af #[ae X u.length Z] 39)/\TMk Y (wE.setCell ⟨B',0,G⟩ (ae X u.length Z)) (cs.set j x) X Z u/\(Y:C)<=B'):=⟨zE qC 0 _,HF.2.1.put fB qC (by decide) (by decide),HF.2.2⟩
        have HX:H (Fr No Y (wE.setCell ⟨B',0,G⟩ (ae X u.length Z))):=HF.1.step fB (λb I h=>by have:=HF.2.2;omega)
       all_goals (
        have HB:H ((Y:C)<=B'):=HF.2.2;clear fB qC;go_wp2_with fail;refine bc ⟨Fr.setCell (av _ _) (λ_=>HB) _,?_⟩;(repeat(first|apply zL rfl rfl rfl|apply zJ rfl rfl rfl);intro K hK;go_big_quiet_op;go_big_quiet_on);apply zW;go_wp2;go_meet;exact⟨B',X,Z,u,rfl,rfl,HR,HX⟩
        )
      case rest=>
       obtain⟨B',X,Z,u,rfl,rfl,s4,m0⟩:=hcut;obtain⟨W9,rfl⟩:=ε wc
       have s5:=zh (m0.heap s1 id);have D9:=m0.heap n9.1 id;have B9:=m0.heap n9.2 id;have I5:x.index=d.index:=(by rw[b2.1]);have I6:=zh D9;have I7:=zh B9;have m3:=zh m0;have I8:H (∀ W,Fr No W9 W->ba ap 52 #[ag #[ae a1 cs k1],d.index] W λe w'=>e=.returned (.tuple #[PO,.bool ai])/\Fr No W w'):=λW hW=>by
        have hT:=(A1.out.no m3).no hW;have e0:dn.index=d.index:=(by have h:=bq bn g1.2.1;exact h);have:=zAz a1 k1 cs d.index W hT.dv hT.wf.ok (by have:=A.2.2.2.2.2.1;have:=HN.1;omega) (by rw[<-e0];exact hT.wf.ok.iwf (bj g1.1));have e1:(((look cs d.index).map λ_=>pathOf (origin cs d.index)).getD ⟨#[]⟩)=PO:=by
         have h:=HY.2.2.2.2.2.1;rw[h];show plc cs d.index=_
         rw[<-zAH,A.2.1,zAH]
        have e2:(look cs d.index).isSome=true:=(by rw[<-e0,zx hT.wf.ok.nd (bj g1.1)];rfl);rw[e1,e2]at this;exact this
       have M1:=b9.size;clear D9 B9 m0;go_upto_region 8 with(fail)
       refine zO No [(0,f),(1,f),(2,f),(3,f),(4,f),(5,f),(6,ai),(7,f),(8,f),(9,f),(10,f),(11,f)] (λwa o3=>?_);have A7:=o3.heap s5 id;have da:=o3.heap I6 id;have x0:∀ g:Gr No wa,g.W ⟨U,0,G⟩=E (ae a1 cs k1):=λg=>zB (g.fr.heap A7 id) 0
       have e0:∀ g:Gr No wa,g.W ⟨wr,0,G⟩=E (aq a0 d.index):=λg=>by rw[<-I5];exact zB (g.fr.heap da id) 0
       have l5:=zh o3;clear A7 da o3;(repeat(first|apply zR rfl rfl rfl|apply zT rfl rfl rfl);intro K hK;go_big_quiet_op;go_big_quiet_on);clear e0 x0;apply zu rfl;go_wp2_with fail;apply (I8 wa l5).mono;rintro e wb ⟨rfl,s7⟩;have s8:=zh (l5.step s7 zi);go_wp2_with fail;apply zm s7;clear s7;(repeat(first|apply zR rfl rfl rfl|apply zT rfl rfl rfl);intro K hK;go_big_quiet_op;go_big_quiet_on);apply zb;have I9:=zh (zG A.2.2.1 ((b9.step m3 zn).step s8 zn) (λb I h=>by have:=j8.2 b I;omega));have J0:=zh w1.2;have M2:=g8.out.fr.size;have s9:=m3.size;have sb:=s8.size;go_upto_region 9 with(fail)
       refine zIa 13 (λb=>(aj ao no co).ownBlock=E b) (.q 0 (.q 1 (.q 2 (.q 3 (.q 4 (.q 5 (.q 6 (.q 7 (.q 8 (.m1 9 (.m1 10 (.m1 11 (.q 12 (.m1 13 .fin)))))))))))))) _ (λWK t8=>?_) zj;have o4:=zh (s8.step t8 zi);have k7:=o4.heap s5 id;have g4:=zG I9 t8 (λ_ _=>id);clear t8;have n7:=zK g4 k7 (by decide);have g3:=o4.heap I7 id;have n3:=zK g4 g3 (by decide);have t7:∀ g:Gr (λb=>(aj ao no co).ownBlock=E b) WK,g.W ⟨U,1,G⟩=E (ae ao no co):=λg=>zB (g.fr.heap k7 n7) 1
       have t3:∀ g:Gr (λb=>(aj ao no co).ownBlock=E b) WK,g.W ⟨a9,2,G⟩=E (ay y.c):=λg=>zB (g.fr.heap g3 n3) 2
       have s3:=o4.size;clear g3 n3;(repeat apply tx_q rfl rfl rfl;intro K hK;go_big_quiet_op;go_big_quiet_on);clear t7 t3;have al:=(av No WK).alloc (af (ocs 3 PO ZD zM y.c) 72);have o7:=zG g4 al (λ_ _=>id);have k5:=al.heap k7 id;have A8:=zh al;clear g4 k7 al;apply zBG rfl;go_wp2_with fail;refine bc ⟨λ_=>A8.mono zn,?_⟩;apply zBG rfl;go_wp2_with (at_builtin;refine cp _ rfl _ _ 79 rfl rb 72 i0 (ag #[aq a0 0,am,aq a0 0,aq a0 0,am,am,am,am,am,aq a0 0,aq a0 0,ae G 0 0,am,am]) 14 192 cn D7 p3 D8 F0 rfl (by decide) _ _ _ rfl o7 ⟨WK,0,G⟩ 1 1 (ocs 3 PO ZD zM y.c).toList rfl rfl (zl _ (ocs 3 PO ZD zM y.c) _ rfl) (zDG _ _ _ _ _) (by unfold az;omega) (by omega) (by have:=J0.out;rw[ce];omega) ?_;intro v' w6 g5 A9 _ D2;obtain⟨d2,d4,rfl⟩:=zI g5)
       have gf:Fr (λb=>(aj ao no co).ownBlock=E b) (WK.alloc (af (ocs 3 PO ZD zM y.c) 72)) w6:=Fr.of_grown A9;apply zf gf;have k6:=gf.heap k5 n7;have n6:=zK g5 k6 (by decide);have t7:w6 ⟨U,1,G⟩=E (ae ao no co):=zB k6 1;have f7:w6.frozen? ⟨U,1,G⟩=false:=zD k6 1;have x8:Fr (Is U) w6 (w6.setCell ⟨U,1,G⟩ (ae d2 (no+1) d4)):=bh (av _ _) _;have k8:(w6.setCell ⟨U,1,G⟩ (ae d2 (no+1) d4)).heap[U]?=E (af #[ae a1 cs k1,ae d2 (no+1) d4] 117):=zE k6 1 (ae d2 (no+1) d4);have o8:=zG g5 x8 (λb I h=>n6 (by unfold Is at h;rw[<-h];exact I));have ff:Fr (λb=>b=U\/(aj ao no co).ownBlock=E b) W9 (w6.setCell ⟨U,1,G⟩ (ae d2 (no+1) d4)):=(((o4.step A8 zi).mono zn).step gf (λb _ h=>.inr h)).step x8 (λb _ h=>.inl h);have D3:H (∀ b,(aj d2 (no+1) d4).ownBlock=E b->S b\/(w:C)<=b):=λb I=>by
        rcases D2 with h|h
        .rw[h]at I;exact p8 b I
        .rw[h]at I;cases I;rw[ce];right;omega
       have HR:=zg3 k8 o8 ff;obtain⟨WZ,t9⟩:=ε (w6.setCell ⟨U,1,G⟩ (ae d2 (no+1) d4))
       rw[<-t9]at HR;clear o7 g5 A9 gf k5 k6 k8 x8 ff n6 n7 D2 o8;apply zBG rfl;go_wp2_with fail;refine bc ⟨λ_=>av _ _,?_⟩;(repeat apply tx_q rfl rfl rfl;intro K hK;go_big_quiet_op;go_big_quiet_on);apply zBG rfl;go_wp2_with fail;refine bc ⟨λh=>(h rfl).elim,?_⟩;apply zGU;rw[<-t9];clear t9 t7 f7;have v0:∀ b,(aj ao no co).ownBlock=E b->b<(wr:C):=j8.2;have J7:=s4.2.2;have J8:(wr:C)<(Y:C):=I3;have D4:¬ (B'=U\/(aj ao no co).ownBlock=E B'):=λh=>h.elim (λh=>by omega) (λh=>by have:=v0 _ h;omega)
       have bz:=HR.2.2.heap s4.1 D4;have z0:WZ ⟨B',0,G⟩=E (ae X u.length Z):=zB bz 0;have y0:=zD HR.1 0;have y1:WZ ⟨U,0,G⟩=E (ae a1 cs k1):=zB HR.1 0;have xF:Fr (Is U) WZ (WZ.setCell ⟨U,0,G⟩ (ae X u.length Z)):=bh (av _ _) _;have HQ:=zg2 (zE HR.1 0 (ae X u.length Z)) xF;clear bz xF;go_wp2;go_roundw;case rel=>
        refine⟨j+1,by omega,by go_num,?_⟩;have v1:=zG A.2.2.1 (b9.step m3 zn) (λb I h=>by have:=j8.2 b I;omega);have J1:TMk Y WZ (cs.set j x) X Z u:=s4.2.1.fr HR.2.2 (λb I M4 T hc=>by
         rcases I with rfl|I
         .rw[s5.out]at hc;cases hc;exact⟨by decide,by decide⟩
         .by_cases hT:T=72;·subst hT;exact⟨by decide,by decide⟩
          .exact absurd I (zK v1 hc hT))
        have g2:=J1.put HQ.2 HR.1 (by decide) (by decide);have o9:u.map strip=cs.map strip:=g2.cop.strip.trans (zCn g1.1 (g1.2.2.2.trans g1.2.1.symm));have J2:Tr _ V X Z u:=g2.cop.tr I2 g2.dv (TreeWf.ofStrip a8.wf o9) g2.fresh (by have:=w1.1;omega);have J3:TrT (WZ.setCell ⟨U,0,G⟩ (ae X u.length Z)) X u:=λb I=>by
         rcases I with⟨ad,e,rfl⟩|⟨z,hz,ad,e,rfl⟩
         .obtain⟨q,hq⟩:=g2.bt ad e;exact⟨q,_,hq,.inl rfl⟩
         .obtain⟨z0,_,p3⟩:=g2.cop.mem hz;obtain⟨q,hq⟩:=p3.typ ad e;exact⟨q,_,hq,.inr rfl⟩
        have ei:dn.index=d.index:=(by have h:=bq bn g1.2.1;exact h);have D5:CtO _ u (updC (setF M ds ct J j).1 d.index y.c):=ei▸I1.out.cop g2.cop;have v2:=zG HR.2.1 HQ.2 (λb I h=>zK HR.2.1 HR.1 (by decide) (by unfold Is at h;rw[<-h];exact I));refine⟨⟨X,Z,u,d2,no+1,d4,by rw[d9.out,bu];have:=A.1;simp;omega,HQ.1,J2,o9.trans A.2.1,by rw[d9.out,zFt];exact v2,J3,by rw[d9.out];exact D5,D3.out⟩,?_⟩;refine(((A.2.2.2.2.2.2.2.2.step b9 (λb I h=>by omega)).step m3 zn).step HR.2.2 (λb I h=>?_)).step HQ.2 (λb I h=>?_)
        .rw[a2.2];rcases h with h|h
         .exact .inl h
         .rcases p8.out b h with h'|h'
          .rw[a2.2]at h';exact h'
          .omega
        .rw[a2.2];exact .inl h
       case measure=>simp[be];omega
     .have d9:H (setF M ds ct J (j+1)=setF M ds ct J j):=by
       unfold H;rw[o5,br];revert hc;cases VB<;>cases(tx.toList==y.c.toList)<;>simp
      have J4:H (SetI U rb V w M ds ct J S (j+1) W6):=by
       refine⟨⟨a1,k1,cs,ao,no,co,by rw[d9];exact A.1,HX.heap j7 id,a8.out.no HX,A.2.1,by rw[d9];exact zG A.2.2.1 HX (λ_ _=>id),A.2.2.2.1.fr HX (λ_ _=>id),by rw[d9];exact A.2.2.2.2.1.no HX,p8⟩,A.2.2.2.2.2.2.2.2.step HX zn⟩
      go_wp2;go_roundw;case rel=>exact⟨j+1,by omega,by go_num,J4⟩
      case measure=>simp[be];omega
  .obtain rfl:j=(ds:C):=by omega
   have w3:¬ ((ds:C):ab)<(ds:C):=(by omega);go_wp2;go_end0;exact⟨rfl,g8⟩
end Go.Proofs.YtjohgekljmhheaaGreatDoor
