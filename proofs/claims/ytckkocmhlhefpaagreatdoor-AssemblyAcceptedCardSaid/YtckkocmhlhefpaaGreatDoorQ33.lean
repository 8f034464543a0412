import Derived.Test.YtckkocmhlhefpaaGreatDoorQ32
namespace Go.Proofs.YtckkocmhlhefpaaGreatDoor
open Go.RowKit Go.Maps Go.Shelf
set_option linter.unusedVariables false
set_option maxRecDepth 100000
set_option maxHeartbeats 8000000
open Dev renaming vals->ap
open Fr renaming refl->ar
open Go renaming undef->a0,World->ah,Addr->ak,maxLen->aw
open Go.Proofs.Tryz renaming prog->aq
open Go.Value renaming slice->ba
open Go.World renaming size_alloc->bb
open IntKind renaming i64->ae
open Obj renaming cells->ag
open Prod renaming snd->ax
open Value renaming string->P,slice->ab,int->af,agg->aj,pointer->am
open _root_ renaming Nat->C,List->G,Int->B,ByteArray->f,Option->ai
open _root_.Bool renaming true->al
open _root_.ByteArray renaming toList->bc
open _root_.List renaming length_map->au,map_append->ay,mem_singleton->az,foldl_map->bd,length_append->be,length_cons->bf,length_nil->bg,map_map->bh,map_take->bi,mem_map_of_mem->bj,pairwise_reverse->bm
open _root_.Nat renaming le_trans->bn
open _root_.Option renaming some->E,none->K
variable{ds:G Dev}{p:B}{M:G Vir}{ct:B->f}{v:Vir}{Z b:C}{w W:ah}{u:G OpA}
theorem zOg (pb a4:C)(a:ai ak)(U:C)(ds:G Dev)(v1:Value)(I Z vc:f)(vr p:B)(dt:Dev)(w:ah)(hl:Tr w a4 a U ds)(hn:ds.length<=250)(a5:w.heap[pb]?=E (ag #[ab a ds.length U,v1] 102))
  (hp:ParIs ds I p) (b2:ds.find? (atP ds (I++(⟨#[47]⟩:f)++Z))=E dt) (hq:I.size<=100000) (ho:Z.size<=100000):
  Calls aq 33 #[am (E ⟨pb,0,K⟩),aj #[P I,P Z,P vc,af ae vr]] w λe w'=>e=.returned (.tuple #[])/\Fr No w w':=by
 obtain⟨W0,b3,x0,b0⟩:=zy w (ag #[P I,P Z,P vc,af ae vr] 97);have a6:=x0.heap a5 id;have d3:=zC a5;have b4:=λ(s:f) (W:ah) (hf:Fr No w W)=>zDd a U ds a4 s W (hl.no hf) (by omega)
 have a2:=zh b4;have Hp:=zh hp;have a3:=zh b2;clear b4 hl a5 hp b2;have d4:(I++(⟨#[47]⟩:f)).size<=9223372036854775807:=by rw[ByteArray.size_append];show I.size+1<=_;omega
 have d5:(I++(⟨#[47]⟩:f)++Z).size<=9223372036854775807:=by rw[ByteArray.size_append,ByteArray.size_append];show I.size+1+Z.size<=_;omega
 go_enter Tryz.func33,Tryz.ntmps33
 go_upto_region 1 with(fail)
 rw[<-b3];clear b3
 go_cut [4,5] (λp4 b5 wx=>∃ Bp F R,p4=am (E ⟨Bp,0,K⟩)/\b5=.bool R/\Hid (wx.heap[Bp]?=E (ag (ap F) 36)/\F.index=p/\(R=al\/I=⟨#[]⟩)/\(w:C)<Bp)/\Fr No W0 wx)
 case first=>
  refine zZ (λb=>(W0:C)<=b) (.q 0 (.q 1 (.q 2 (.q 3 (.q 4 (.q 5 (.m2 6 (.q 7 (.q 8 (.q 9 (.m1 10 (.m1 11 (.q 12 .fin)))))) 10 (.m1 6 (.q 7 (.q 8 (.q 9 (.m1 11 (.q 12 .fin))))))))))))) _ (by kernel_rfl) (by kernel_rfl) (λY y=>?_) zj;have b1:=y.heap b0 id;have k1:=y.heap a6 id;have d0:=zC b0;have t0:∀ g:Gr (λb=>(W0:C)<=b) Y,g.W.cell? ⟨pb,0,K⟩=E (ab a ds.length U):=λg=>zB (g.fr.heap k1 (λh=>by omega)) 0
  have t1:∀ g:Gr (λb=>(W0:C)<=b) Y,g.W.cell? ⟨w,0,K⟩=E (P I):=λg=>zB (g.fr.heap b1 (λh=>by omega)) 0
  have b6:=y.size;have x1:=zh (x0.step y zi)
  repeat((first|apply zL rfl rfl rfl|apply zJ rfl rfl rfl);intro a7 hK;go_big_quiet_op;go_big_quiet_on)
  clear t0 t1;refine zAA rfl rfl ?_ ?_
  focus
   have o:=a2.out I Y x1.out
   go_wp2_with fail
   refine o.mono ?_;rintro e w2 ⟨hF,z⟩;clear o;obtain⟨F,R,rfl,V,X⟩:∃ F R,e=.returned (.tuple #[aj (ap F),.bool R])/\F.index=p/\(R=al\/I=⟨#[]⟩):=by
    rcases hF with⟨u,rfl⟩|⟨d,a',c',l',u,rfl,_⟩
    .rcases Hp.out with⟨_,D,h3⟩|⟨d,D,_⟩
     .exact⟨Dev.zero,false,rfl,h3.symm,.inr D⟩
     .rw[u]at D;cases D
    .rcases Hp.out with⟨D,_⟩|⟨d',D,h3⟩
     .rw[u]at D;cases D
     .rw[u]at D;cases D;exact⟨{ d with aa:=a',ac:=c' },al,rfl,h3.symm,.inl rfl⟩
   have a8:=zg2 V X;clear V X;unfold ap
   go_wp2_with fail
   refine zm z ?_
   repeat((first|apply zL rfl rfl rfl|apply zJ rfl rfl rfl);intro a7 hK;go_big_quiet_op;go_big_quiet_on)
   apply zH;exact rfl;obtain⟨W3,A,J,N⟩:=zy w2 (ag #[af ae 0,af ae 0,P ⟨#[]⟩,P ⟨#[]⟩,P ⟨#[]⟩,P ⟨#[]⟩,P ⟨#[]⟩,af ae 0,af ae 0,ab K 0 0] 36);have HX:Hid (Fr No W0 W3):=(y.step z zi).step J zi;have d1:=z.size
   go_wp2_with fail
   refine zp ?_;rw[<-A];clear A J
  rotate_left 1
  focus
   obtain⟨W3,A,J,q2⟩:=zy Y (ag #[af ae 0,af ae 0,P ⟨#[]⟩,P ⟨#[]⟩,P ⟨#[]⟩,P ⟨#[]⟩,P ⟨#[]⟩,af ae 0,af ae 0,ab K 0 0] 36)
   go_wp2_with fail
   refine zp ?_;rw[<-A];clear A;have o:=a2.out I W3 (x1.out.step J zi);apply zH;exact rfl
   go_wp2_with fail
   refine o.mono ?_;rintro e w2 ⟨hF,z⟩;clear o;obtain⟨F,R,rfl,V,X⟩:∃ F R,e=.returned (.tuple #[aj (ap F),.bool R])/\F.index=p/\(R=al\/I=⟨#[]⟩):=by
    rcases hF with⟨u,rfl⟩|⟨d,a',c',l',u,rfl,_⟩
    .rcases Hp.out with⟨_,D,h3⟩|⟨d,D,_⟩
     .exact⟨Dev.zero,false,rfl,h3.symm,.inr D⟩
     .rw[u]at D;cases D
    .rcases Hp.out with⟨D,_⟩|⟨d',D,h3⟩
     .rw[u]at D;cases D
     .rw[u]at D;cases D;exact⟨{ d with aa:=a',ac:=c' },al,rfl,h3.symm,.inl rfl⟩
   have a8:=zg2 V X;clear V X;unfold ap;have N:=z.heap q2 id;have HX:Hid (Fr No W0 w2):=(y.step J zi).step z zi;clear q2 J
   go_wp2_with fail
   refine zm z ?_
   repeat((first|apply zL rfl rfl rfl|apply zJ rfl rfl rfl);intro a7 hK;go_big_quiet_op;go_big_quiet_on)
  all_goals (
   apply zH;exact rfl;obtain⟨z0,z1,z2,z3,z4,z5,z6,z7,z8,z9⟩:=DevB.of (d:=⟨0,0,⟨#[]⟩,⟨#[]⟩,⟨#[]⟩,⟨#[]⟩,⟨#[]⟩,0,0,K,0,0⟩) N;obtain⟨y0,y1,y2,y3,y4,y5,y6,y7,y8,y9⟩:=DevF.of N;have O:=zh (zBA N rfl F);have d2:=zC N;clear N
   go_wp2_with fail
   refine OnlyN.mk ⟨O.out.2.mono (λb _ h=>by omega),?_⟩
   repeat((first|apply zL rfl rfl rfl|apply zJ rfl rfl rfl);intro a7 hK;go_big_quiet_op;go_big_quiet_on)
   refine zV ?_
   go_wp2_with fail
   go_meet
   exact⟨_,F,R,rfl,rfl,⟨O.out.1,a8.out.1,a8.out.2,by omega⟩,(HX.out.step O.out.2 (λb hb h=>by omega))⟩
   )
 case rest=>
  obtain⟨Bp,F,R,rfl,rfl,hB,y⟩:=hcut;have a9:Fr No w wc:=x0.step y zi;have b8:=y.heap b0 id;have b9:=y.heap a6 id;have p1:=hB.out.1;have d0:=zC b0;have b6:=y.size;have d6:=zC p1;have d7:=hB.out.2.2.2;clear b0 a6 y
  go_upto_region 2 with(fail)
  go_cut [6,7] (λp6 b7 wx=>(∃ Bq,p6=am (E ⟨Bq,0,K⟩))/\b7=.bool al/\Fr No wc wx)
  case first=>
   refine zZ (λb=>(wc:C)<=b) (.q 0 (.q 1 (.q 2 (.q 3 (.q 4 (.q 5 (.q 6 (.q 7 (.q 8 (.q 9 (.m2 10 (.q 11 (.q 12 (.q 13 (.m1 14 (.m1 15 (.q 16 .fin)))))) 14 (.m1 10 (.q 11 (.q 12 (.q 13 (.m1 15 (.q 16 .fin))))))))))))))))) _ (by kernel_rfl) (by kernel_rfl) (λY y=>?_) zj;have b1:=y.heap b8 id;have k1:=y.heap b9 id;have t0:∀ g:Gr (λb=>(wc:C)<=b) Y,g.W.cell? ⟨pb,0,K⟩=E (ab a ds.length U):=λg=>zB (g.fr.heap k1 (λh=>by omega)) 0
   have t1:∀ g:Gr (λb=>(wc:C)<=b) Y,g.W.cell? ⟨w,0,K⟩=E (P I):=λg=>zB (g.fr.heap b1 (λh=>by omega)) 0
   have t2:∀ g:Gr (λb=>(wc:C)<=b) Y,g.W.cell? ⟨w,1,K⟩=E (P Z):=λg=>zB (g.fr.heap b1 (λh=>by omega)) 1
   have b6:=y.size;have x1:=zh (a9.step y zi)
   repeat((first|apply zL rfl rfl rfl|apply zJ rfl rfl rfl);intro a7 hK;go_big_quiet_op;go_big_quiet_on)
   clear t0 t1 t2;refine zAA rfl rfl ?_ ?_
   focus
    have o:=a2.out (I++(⟨#[47]⟩:f)++Z) Y x1.out
    go_wp2_with fail
    refine o.mono ?_;rintro e w2 ⟨hF,z⟩;clear o;obtain⟨F,rfl⟩:∃ F,e=.returned (.tuple #[aj (ap F),.bool al]):=by
     rcases hF with⟨u,rfl⟩|⟨d,a',c',l',u,rfl,_⟩
     .rw[a3.out]at u;cases u
     .rw[a3.out]at u;cases u;exact⟨{ dt with aa:=a',ac:=c' },rfl⟩
    unfold ap
    go_wp2_with fail
    refine zm z ?_
    repeat((first|apply zL rfl rfl rfl|apply zJ rfl rfl rfl);intro a7 hK;go_big_quiet_op;go_big_quiet_on)
    apply zH;exact rfl;obtain⟨W3,A,J,N⟩:=zy w2 (ag #[af ae 0,af ae 0,P ⟨#[]⟩,P ⟨#[]⟩,P ⟨#[]⟩,P ⟨#[]⟩,P ⟨#[]⟩,af ae 0,af ae 0,ab K 0 0] 36);have HX:Hid (Fr No wc W3):=(y.step z zi).step J zi;have d1:=z.size
    go_wp2_with fail
    refine zp ?_;rw[<-A];clear A J
   rotate_left 1
   focus
    obtain⟨W3,A,J,q2⟩:=zy Y (ag #[af ae 0,af ae 0,P ⟨#[]⟩,P ⟨#[]⟩,P ⟨#[]⟩,P ⟨#[]⟩,P ⟨#[]⟩,af ae 0,af ae 0,ab K 0 0] 36)
    go_wp2_with fail
    refine zp ?_;rw[<-A];clear A;have o:=a2.out (I++(⟨#[47]⟩:f)++Z) W3 (x1.out.step J zi);apply zH;exact rfl
    go_wp2_with fail
    refine o.mono ?_;rintro e w2 ⟨hF,z⟩;clear o;obtain⟨F,rfl⟩:∃ F,e=.returned (.tuple #[aj (ap F),.bool al]):=by
     rcases hF with⟨u,rfl⟩|⟨d,a',c',l',u,rfl,_⟩
     .rw[a3.out]at u;cases u
     .rw[a3.out]at u;cases u;exact⟨{ dt with aa:=a',ac:=c' },rfl⟩
    unfold ap;have N:=z.heap q2 id;have HX:Hid (Fr No wc w2):=(y.step J zi).step z zi;clear q2 J
    go_wp2_with fail
    refine zm z ?_
    repeat((first|apply zL rfl rfl rfl|apply zJ rfl rfl rfl);intro a7 hK;go_big_quiet_op;go_big_quiet_on)
   all_goals (
    apply zH;exact rfl;obtain⟨z0,z1,z2,z3,z4,z5,z6,z7,z8,z9⟩:=DevB.of (d:=⟨0,0,⟨#[]⟩,⟨#[]⟩,⟨#[]⟩,⟨#[]⟩,⟨#[]⟩,0,0,K,0,0⟩) N;obtain⟨y0,y1,y2,y3,y4,y5,y6,y7,y8,y9⟩:=DevF.of N;have O:=zh (zBA N rfl F);have d2:=zC N;clear N
    go_wp2_with fail
    refine OnlyN.mk ⟨O.out.2.mono (λb _ h=>by omega),?_⟩
    repeat((first|apply zL rfl rfl rfl|apply zJ rfl rfl rfl);intro a7 hK;go_big_quiet_op;go_big_quiet_on)
    refine zV ?_
    go_wp2_with fail
    go_meet
    exact⟨⟨_,rfl⟩,rfl,HX.out.step O.out.2 (λb hb h=>by omega)⟩
    )
  case rest=>
   obtain⟨⟨Bq,rfl⟩,rfl,z⟩:=hcut;have HX:=zh (a9.step z zi);clear a9 b8 b9 p1 z
   go_wp2_with fail
   refine bodyPost_ret (v:=.tuple #[]) (by simp[results,Tryz.results33,go_sem]) rfl ?_;exact⟨rfl,HX.out⟩
theorem zDr {s:f}:ParIs (ds.map strip) s p↔ParIs ds s p:=by
 unfold ParIs;rw[zFp];cases h:ds.find? (atP ds s)with
 | none=>simp
 | some d=>
  constructor
  .rintro (⟨o,_⟩|⟨e,o,u⟩)
   .cases o
   .cases o;exact .inr ⟨d,rfl,u⟩
  .rintro (⟨o,_⟩|⟨e,o,u⟩)
   .cases o
   .cases o;exact .inr ⟨strip d,rfl,u⟩
theorem zDb (ds:G Dev)(n:B):usedF (ds.map strip) n=usedF ds n:=by unfold usedF;rw[List.any_map];rfl
theorem zFU (ds:G Dev):maxI (ds.map strip)=maxI ds:=by unfold maxI;rw[bd];rfl
theorem zKE (ds:G Dev)(d:Dev):newO (ds.map strip) d=newO ds d:=by unfold newO;rw[zAJ]
theorem zD4 (ds:G Dev)(d:Dev):insK (ds.map strip) d=insK ds d:=zID (ds:=ds) d
theorem zEk (ds:G Dev)(d:Dev):sameO (ds.map strip) d=sameO ds d:=zJr (ds:=ds) d
theorem zFj (ds:G Dev)(d:Dev):(ds.map strip).any (clP d)=ds.any (clP d):=zC8 (ds:=ds) d
theorem zH4 (ds:G Dev)(p:B)(o:f)(h:B)(u:f)(v:ai ak):newG (ds.map strip) p o h u v=newG ds p o h u v:=by unfold newG;rw[zFU]
theorem zEr {d:Dev}{l:G (f×f)}(h:InsPre (ds.map strip) d l):InsPre ds d l:=by
 refine⟨h.snd,?_,?_,?_,?_⟩
 .have:=h.new;rw[zA5]at this;simpa using this
 .have:=h.par;rw[zA5]at this;simpa using this
 .have:=h.len;rw[au]at this;exact this
 .have:=h.dep;rw[zKE]at this;exact this
theorem AddOk.map {y z A:f}(h:AddOk (ds.map strip) y z A p):AddOk ds y z A p:=by
 refine⟨zDr.1 h.par,?_,h.pw,h.q,h.o,h.c,λd I=>h.nw (strip d) (bj I),by have:=h.mx;rw[zFU]at this;exact this,λk J N O=>?_⟩
 .have:=h.no;rw[zFp]at this;simpa using this
 .obtain⟨D,F,u,v⟩:=h.pre k (by rw[au];exact J) (by rw[zDb];exact N) O;rw[zH4]at D F u v;rw[zEk,zFj]at u;rw[zD4]at v;refine⟨zEr D,F,u,TreeWf.ofStrip v ?_⟩;unfold insAt;simp only[ay,bi,List.map_drop,List.map_cons,bh];rfl
theorem zG0 (M:G Vir)(ds:G Dev)(ct:B->f)(s:(B->f)×G OpA)(d:Dev):zAR M (ds.map strip) ct s d=zAR M ds ct s d:=by
 unfold zAR;rw[zAn,zAJ,zAJ]
theorem zLg (M:G Vir)(ds:G Dev)(ct:B->f)(h:G OpA)(k:C):setF M (ds.map strip) ct h k=setF M ds ct h k:=by
 unfold setF;rw[<-bi,bd]
 congr 1
 funext s d
 rw[zG0];rfl
theorem SetOk.map (h:SetOk M (ds.map strip) ct):SetOk M ds ct:=λd u=>by
 obtain⟨v,o,y⟩:=h (strip d) (bj u);rw[zC8]at o;refine⟨v,o,λz=>?_⟩;have:=y (by rw[zAn];exact z);rw[zAJ]at this;exact⟨⟨this.1.rng,this.1.named,this.1.same,this.1.num,this.1.attrs,this.1.link⟩,this.2⟩
def DistP (M:G Vir):Prop:=M.Pairwise λx y=>(x.q,x.o)≠(y.q,y.o)
theorem zMM (h:DistP (M++[v])):inW M v.q v.o=false:=by
 unfold inW;rw[List.any_eq_false];intro x u;have:=(List.pairwise_append.1 h).2.2 x u v (by simp)
 simpa using this
theorem zDa (h:DistP M)(y:v∈M):wantG M (v.q,v.o)=E (aj v.vals):=by
 unfold wantG;have:M.find? (λx=>decide ((x.q,x.o)=(v.q,v.o)))=E v:=by
  induction M with
  | nil=>cases y
  | cons x t z=>
   rw[List.find?_cons];by_cases e:(x.q,x.o)=(v.q,v.o)
   .rcases List.mem_cons.1 y with u|u
    .subst u;simp
    .exact absurd e ((List.pairwise_cons.1 h).1 v u)
   .rw[decide_eq_false e];rcases List.mem_cons.1 y with u|u
    .subst u;exact absurd rfl e
    .exact z (List.pairwise_cons.1 h).2 u
 rw[this];rfl
theorem zEf {p:f×f}(h:∀ v∈M,(v.q,v.o)≠p):wantG M p=none:=by
 unfold wantG;have:M.find? (λx=>decide ((x.q,x.o)=p))=none:=by
  rw[List.find?_eq_none];intro x u
  simpa using h x u
 rw[this];rfl
theorem zJU (h:DistP M):wantG M.reverse=wantG M:=by
 have A:DistP M.reverse:=by
  unfold DistP;rw[bm];exact h.imp λy e=>y e.symm
 funext p
 by_cases z:∃ v∈M,(v.q,v.o)=p
 .obtain⟨v,u,rfl⟩:=z;rw[zDa h u,zDa A (by simpa using u)]
 .rw[zEf λv u e=>z ⟨v,u,e⟩,zEf λv u e=>z ⟨v,by simpa using u,e⟩]
attribute [local go_sem] Oper.semAt_some
theorem zDW {F:Fence}{Z:C}{w:ah}{I:Array Oper}{A:G Oper}{o:Oper}{a:Act}{Q:Exit->Act->ah->Prop}(hg:o.guard=K)(m x v:Operand)(t e:TypeId)(X:o.op=Op.mapUpdate t m x v)(ht:Tryz.prog.underlying t=E (.map 99 e))
  (J:C) (g:f×f->ai Value) (N:C) (hN:N<aw) (s:f) (n:f) (hs:s.size<=aw) (hn:n.size<=aw) (u:Value) (hm:a.eval m=.map (E J)) (O:QMap w J g N) (hx:a.eval x=aj #[.string s,.string n]) (R:a.eval v=u)
  (hK:∀ w',QMap w' J (updQ g (s,n) u) (N+1)->Fr (Is J) w w'->wpListIn F Z aq I Q A (a.put o.dst a0) w'):wpListIn F Z aq I Q (o::A) a w:=by
 obtain⟨D,k,hk,Y,hh⟩:=O;refine wpListIn_mapUpdate_own w hg m x v t X 99 e lawQ ht heldV J k D hm Y (by omega) _ _ _ hx R (keyQ hs hn) (.held u) [] rfl (λw' h h'=>hK w' ⟨_,k+1,by omega,h,λy hy U=>?_⟩ (Fr.of_grown_some h'));obtain⟨h1,h2⟩:=hh y hy U;unfold updQ;by_cases e:y=(s,n)
 .subst e;rw[if_pos rfl];exact⟨by rw[has_put_same Y.isMap (zFa _) _];rfl,λv R z=>by cases R;rw[atKey_put_same Y.isMap (zFa _) _ _]⟩
 .rw[if_neg e];have V:aqL y≠aqL (s,n):=λhe=>e (zLD hy U hs hn he)
  exact⟨by rw[has_put_other V];exact h1,λv R z=>by rw[atKey_put_other V];exact h2 v R z⟩
theorem zHo {α:Type}(L:G α):(revR L).map ax=L.reverse:=by
 unfold revR;rw[bh,List.map_reverse]
 congr 1
 show L.zipIdx.map Prod.fst=L
 exact List.zipIdx_map_fst ..
theorem zML {pre:G (B×Vir)}{x:B×Vir}(h:DistP M)(v:pre++[x] <+: revR M):DistP (pre.map ax++[x.2]):=by
 have y:DistP M.reverse:=by
  unfold DistP;rw[bm];exact h.imp λo e=>o e.symm
 have u:(pre++[x]).map ax <+: M.reverse:=by rw[<-zHo];exact v.map _
 rw[ay]at u;exact y.sublist u.sublist
def OpsOk (W:ah)(b:C)(ops:G OpA):Prop:=∀ o∈ops,Atts W o.x.aa o.x.ac (cAtt o.c)/\o.x.an=(cAtt o.c).length/\BlkT W o.x.aa 78/\∀ ad,o.x.aa=E ad->b<=ad.block
theorem zNb (M:G Vir)(ds:G Dev)(pre:G (B×Dev)):∀ o∈(remF M ds pre).2,o.x=ZD/\o.c=⟨#[]⟩:=by
 have h:∀ (pre:G (B×Dev)) (s:G Dev×G OpA),(∀ o∈s.2,o.x=ZD/\o.c=⟨#[]⟩)->∀ o∈(pre.foldl (λs x=>zAI M s x.2) s).2,o.x=ZD/\o.c=⟨#[]⟩:=by
  intro pre
  induction pre with
  | nil=>intro s h;exact h
  | cons x t v=>
   intro s h;refine v _ ?_;show ∀ o∈(zAI M s x.2).2,o.x=ZD/\o.c=⟨#[]⟩
   unfold zAI;split
   .intro o y;rcases List.mem_append.1 y with u|u
    .exact h o u
    .simp only[az]at u;subst u;exact⟨rfl,rfl⟩
   .exact h
 exact h pre _ (by simp)
theorem zNW (y:∀ o∈u,o.x=ZD/\o.c=⟨#[]⟩)(k:C):∀ o∈(setF M ds ct u k).2,o.x=ZD/\o.c=⟨#[]⟩:=by
 have h:∀ (l:G Dev) (s:(B->f)×G OpA),(∀ o∈s.2,o.x=ZD/\o.c=⟨#[]⟩)->∀ o∈(l.foldl (zAR M ds ct) s).2,o.x=ZD/\o.c=⟨#[]⟩:=by
  intro l
  induction l with
  | nil=>intro s h;exact h
  | cons x t z=>
   intro s h;refine z _ ?_;unfold zAR;split
   .intro o A;rcases List.mem_append.1 A with v|v
    .exact h o v
    .simp only[az]at v;subst v;exact⟨rfl,rfl⟩
   .exact h
 exact h _ _ y
theorem zK4: cAtt ⟨#[]⟩=[]:=by
 unfold cAtt
 first
 | rfl
 | (rw[if_pos (by decide)];done)
 | (rw[if_pos (by rw[bc,ByteArray.toList.loop];rfl)];done)
 | simp[bc,ByteArray.toList.loop]
theorem OpsOk.zd (h:∀ o∈u,o.x=ZD/\o.c=⟨#[]⟩):OpsOk W b u:=λo v=>by
 obtain⟨y,z⟩:=h o v;rw[y,z,zK4];exact⟨Atts.nil W,rfl,BlkT.none _ _,λ_ e=>by cases e⟩
theorem OpsOk.fr {S:C->Prop}{y:ah}{v:G OpA}(h:OpsOk W b v)(z:Fr S W y)(F:∀ c x,W.heap[c]?=E (ag x 78 (0,0))->¬ S c):OpsOk y b v:=λo I=>by
 obtain⟨J,N,A,O⟩:=h o I;have D:∀ u,o.x.aa=E u->¬ S u.block:=λu e=>by
  obtain⟨cs,R⟩:=A u e;exact F _ _ R
 exact⟨J.fr z (λu e _=>D u e),N,A.fr z D,O⟩
structure PlG (w2:ah)(mb bx:C)(pre:G (B×Vir))(V:C->Prop)(W:ah):Prop where
 box:W.heap[bx]?=E (ag #[.map (E mb)] 82)
 map:QMap W mb (wantG (pre.map ax)) pre.length
 foot:∀ b,V b↔b=mb
 fr:Fr (λb=>b=mb\/(w2:C)<=b) w2 W
def zCK (L:G Dev)(ct:B->f)(ops:G OpA)(v:Vir)(L':G Dev)(ct':B->f)(ops':G OpA):Prop:=
 ((∃ dt,L.find? (atP L (v.q++(⟨#[47]⟩:f)++v.o))=E dt)/\L'=L/\ct'=ct/\ops'=ops)\/
 (L.find? (atP L (v.q++(⟨#[47]⟩:f)++v.o))=K/\∃ (k:C) (aa:ai ak) (p:B),(k<=L.length/\∀ i:C,i<k->usedF L (1048576+(i:B))=al)/\usedF L (1048576+(k:B))=false/\ParIs L v.q p/\
  L'=insAt L (insK L (newG L p v.o (1048576+(k:B)) v.c K)) (strip (newG L p v.o (1048576+(k:B)) v.c K))/\ct'=updC ct (maxI L+1) v.c/\ops'=ops++[⟨1,v.q,opG v.o (1048576+(k:B)) v.c aa,⟨#[]⟩,⟨#[]⟩,v.c⟩])
structure AddI (w3:ah)(rb pb base b0:C)(Inv:C->G Dev->(B->f)->G OpA->Prop)(j:C)(W:ah):Prop where
 st:∃ (a1:ai ak) (c1:C) (cs:G Dev) (ao:ai ak) (co:C) (ct:B->f) (ops:G OpA),W.heap[pb]?=E (ag #[ab a1 cs.length c1,ab ao ops.length co] 102)/\Tr W base a1 c1 cs/\W.ownsRow rb 38 14 (ab ao ops.length co) ops.length (opF ops)/\TrT W a1 cs/\CtO W cs ct/\OpsOk W b0 ops/\Inv j (cs.map strip) ct ops
 fr:Fr (λb=>b=pb\/rb<=b) w3 W
theorem zLK {w3:ah}{I z b0:C}{J:C->G Dev->(B->f)->G OpA->Prop}{j:C}{w6:ah}{v:Vir}{p:B}{a1:ai ak}{c1:C}{cs:G Dev}{ao:ai ak}{co:C}{ct:B->f}(a3:W.heap[I]?=E (ag #[ab a1 cs.length c1,ab ao u.length co] 102))(A:W.ownsRow Z 38 14 (ab ao u.length co) u.length (opF u))(a4:OpsOk W b0 u)(hf:Fr (λb=>b=I\/Z<=b) w3 W)
  (hR:AddR I Z z W cs ct u u.length v.q v.o v.c p w6) (N:Fr (λb=>b=I\/(ba ao u.length co).ownBlock=E b) W w6) (a5:b0<=(W:C)) (O:AddOk (cs.map strip) v.q v.o v.c p)
  (hN:∀ L' R D,zCK (cs.map strip) ct u v L' R D->J (j+1) L' R D):AddI w3 Z I z b0 J (j+1) w6:=by
 obtain⟨k,aa,a2,c2,a6,a7,a8,hk,hu,U,a9,V,F,X,Y,b1,b2,b3,_⟩:=hR;refine⟨⟨a2,c2,a6,a7,a8,updC ct (maxI cs+1) v.c,u++[⟨1,v.q,opG v.o (1048576+(k:B)) v.c aa,⟨#[]⟩,⟨#[]⟩,v.c⟩],by simpa using U,a9,by simpa using F,X,Y,?_,?_⟩,hf.step N (λb _ h=>h.imp_right λh=>(zAD A h).1)⟩
 .intro o ho;rcases List.mem_append.1 ho with h'|h'
  .refine a4.fr N (λc x hc h=>?_) o h';rcases h with h|h
   .subst h;rw[a3]at hc;cases hc
   .obtain⟨ad,rfl,rfl⟩:=zBU h;obtain⟨y,hy⟩:=zAG A ad rfl;rw[hy]at hc;cases hc
  .simp only[az]at h';subst h';exact⟨b1,rfl,b2,λad e=>bn a5 (b3 ad e)⟩
 .refine hN _ _ _ (.inr ⟨O.no,k,aa,p,⟨by rw[au];exact hk.1,λi hi=>by rw[zDb];exact hk.2 i hi⟩,by rw[zDb];exact hu,O.par,?_,by rw[zFU],rfl⟩);rw[V,<-zGS,zH4,zD4];rfl
theorem zIa (y:C)(a:ai ak)(J:C)(ds:G Dev)(ct:B->f)(M:G Vir)(ma:ai ak)(mc:C)(w:ah)(hl:Tr w y a J ds)(hn:ds.length<=250)(hE:Env w)(h5:TrT w a ds)(hC:CtO w ds ct)(hM:Virs w ma mc M)(h6:M.length<=250)(h7:DistP M)(h8:∀ v∈M,v.q.size<=100000/\v.o.size<=100000)(g2:y<=(w:C))
  (hR:RemOk M ds) (h9:∀ d∈ds,d.kind=2) (hS:SetOk M (remF M ds (revR ds)).1 ct)
  (O:C->G Dev->(B->f)->G OpA->Prop) (h0:O 0 (remF M ds (revR ds)).1 (setF M (remF M ds (revR ds)).1 ct (remF M ds (revR ds)).2 (remF M ds (revR ds)).1.length).1 (setF M (remF M ds (revR ds)).1 ct (remF M ds (revR ds)).2 (remF M ds (revR ds)).1.length).2)
  (hI:∀ j v L ct F,M[j]?=E v->O j L ct F->L.length<=250/\F.length<=9000/\∃ p,ParIs L v.q p/\((∃ dt,L.find? (atP L (v.q++(⟨#[47]⟩:f)++v.o))=E dt)\/AddOk L v.q v.o v.c p))
  (hN:∀ j v L ct F L' b6 a7,M[j]?=E v->O j L ct F->zCK L ct F v L' b6 a7->O (j+1) L' b6 a7):
  Calls aq 13 #[aj #[ab a ds.length J],ab ma M.length mc] w λe w'=>(∃ (L:G Dev) (b6:B->f) (F:G OpA) (av:ai ak) (cv:C),O M.length L b6 F/\e=.returned (ab av F.length cv)/\w'.ownsRow (w:C) 38 14 (ab av F.length cv) F.length (opF F)/\OpsOk w' (w:C) F)/\Fr No w w':=by
 refine(callsIn_wide (n:=12)).1 (callsIn_of_wp_marks Tryz.func13 rfl trivial (wpIn_wide.2 ?_));simp only[Tryz.ntmps13,List.size_toArray,bf,bg,Nat.reduceAdd,Nat.reduceSub,Array.replicate_succ,Array.replicate_zero,List.push_toArray,List.append_toArray,List.nil_append,List.cons_append];have l3:=@run_makeMap aq;obtain⟨W0,X⟩:∃ W0,W0=((w.alloc (ag #[ab a ds.length J] 47)).alloc (.map #[] 0)).alloc (ag #[.map (E ((w:C)+1))] 82):=⟨_,rfl⟩
 have hW:Fr No w W0:=by rw[X];exact(((ar _ _).alloc _).alloc _).alloc _
 have b0:W0.heap[(w:C)]?=E (ag #[ab a ds.length J] 47):=by rw[X];exact((ar No _).alloc _).heap (zO _ _ _) id
 have m1:QMap W0 ((w:C)+1) (λ_=>K) 0:=by
  rw[X];have:=QMap.made (w.alloc (ag #[ab a ds.length J] 47));rw[bb]at this;exact this.fr ((ar No _).alloc _) id
 have b2:W0.heap[(w:C)+2]?=E (ag #[.map (E ((w:C)+1))] 82):=by
  rw[X];have:=zF ((w.alloc (ag #[ab a ds.length J] 47)).alloc (.map #[] 0)) (ag #[.map (E ((w:C)+1))] 82);rw[bb,bb]at this;exact this
 have i0:(W0:C)=(w:C)+3:=by rw[X];simp
 have i1:=zh i0;have HA:=zg3 hl hE hM;have HP:=zg6 h5 hC hR h9 hS g2;have HO:=zg3 h6 h7 h8;have a8:=zg3 h0 hI hN;have i2:∀ ad,ma=E ad->M≠[]->ad.block<(w:C):=λad e g3=>(hM.cell ad e g3).2.1
 have n8:=hM.lenmax;clear i0 hl hE hM h5 hC hR h9 hS h6 h7 h8 h0 hI hN g2
 go_upto_region 2 with(fail)
 rw[<-X];clear X l3
 go_wp2_with fail
 refine(zMY _ _ _ _).mono ?_;rintro e w1 ⟨rfl,rfl⟩;have hx:Fr No W0 (W0.alloc (ag #[ab ma M.length mc] 49)):=(ar _ _).alloc _;have db:=zF W0 (ag #[ab ma M.length mc] 49);have d1:=hW.step hx zi;have d0:=hx.heap b0 id;have d2:=hx.heap b2 id;have dm:=m1.fr hx id;rw[i1.out]at db;clear b0 b2 m1 hx hW
 go_wp2_with fail
 rw[i1.out];generalize W0.alloc (ag #[ab ma M.length mc] 49)=W2 at *;have o2:=zC db;have HD:=zg3 d0 d2 dm;refine(wpIn_wide (n:=12)).1 (zAm (α:=B×Vir) (T:=λ_=>False) (V0:=Is ((w:C)+1)) rfl (by omega) (gf:=68) (lb:=#[am (E ⟨(w:C)+3,0,K⟩)]) rfl trivial (enters_of Tryz.func68 (by kernel_rfl) rfl) (encs:=λx:B×Vir=>#[af ae x.1,aj x.2.vals]) (λ_=>rfl) (λb h=>h.elim) (λb h=>by omega)
  (zEW 11 (by omega) ((w:C)+3) ma mc M W2 (Is ((w:C)+1)) db (HA.out.2.2.fr d1 (λ_ _ _=>id)) (by have:=HO.out.1;omega) ⟨λh=>by omega,λad e g3 h=>by have:=i2 ad e g3;omega⟩)
  (PlG W2 ((w:C)+1) ((w:C)+2)) (λs V A h b N=>by rw[(h.foot b).1 N];exact h.map.lt) (λs V A o3 S h hf hS=>by
   exact⟨hf.heap h.box (λN=>by
    have h':(W2:C)<=(w:C)+2:=(hS _ N).2.resolve_left id;omega),h.map.fr hf (λN=>(hS _ N).1 ((h.foot _).2 rfl)),h.foot,h.fr.step hf (λb N hs=>by
    rcases(hS b hs).2 with h'|h'
    .exact h'.elim
    .exact .inr h')⟩)
  ⟨d2,dm,λb=>Iff.rfl,ar _ _⟩
  (λx V a' W=>∃ Bx,(W2:C)+2<=Bx/\W.heap[Bx]?=E (ag x.2.vals 97)/\¬ V Bx/\a'={ tmps:=#[aj #[ab a ds.length J],ab ma M.length mc,am (E ⟨w,0,K⟩),a0,ab K 0 0,am (E ⟨(w:C)+2,0,K⟩),a0,am (E ⟨Bx,0,K⟩),a0,a0,a0,.map (E ((w:C)+1)),ab ma M.length mc,.func (.func 68) #[] #[am (E ⟨(w:C)+3,0,K⟩)],af ae x.1,aj x.2.vals,a0,a0,a0,a0,a0,a0,a0,a0,a0,a0,a0,a0,a0,a0,a0,a0,a0,a0,a0,a0,a0,a0,a0,a0,a0,a0,a0,a0,a0,a0],defers:=[] })
  (λx V a' A o3 h hf=>by obtain⟨Bx,h1,h2,h3,h4⟩:=h;exact⟨Bx,h1,hf.heap h2 (λe=>by omega),h3,h4⟩)
  ?assign ?body ?done)
 case assign=>
  intro l pre V x W p9 hi e3 hK;have g4:∀ b,V b->b<(W:C):=λb N=>by rw[(hi.foot b).1 N];exact hi.map.lt
  have o4:=λa' W' (h1:Fr No W W') h2=>hK a' W' h1 h2
  clear d1 d0 d2 dm db;unfold Vir.vals
  gi_wp2
  exact hK _ _ ((ar _ _).alloc _) ⟨(W:C),e3,zF _ _,λh=>by have:=g4 _ h;omega,rfl⟩
 case body=>
  rintro l pre V ⟨xi,v⟩ a' W hi ⟨Bx,o5,i3,o6,rfl⟩ a9 e3;have e4:v∈M:=zBu (p:=(xi,v)) (a9.subset (by simp));have o7:pre.length<=1000:=by
   have h1:=a9.length_le;rw[zAV]at h1;simp only[be,bf,bg]at h1;have:=HO.out.1;omega
  have i4:v.q.size<=aw/\v.o.size<=maxLen:=by have:=HO.out.2.2 v e4;unfold aw;omega
  have i5:=zML HO.out.2.1 a9;have b7:=hi.map;have x2:W.cell? ⟨(w:C)+2,0,K⟩=E (.map (E ((w:C)+1))):=zB hi.box 0;obtain⟨x3,x4,Y,x6⟩:=cl4 i3;have HI:=zh hi;have l4:=zh i5;clear d1 d0 d2 dm db e4 hi i3 a9 i5
  gi_wp2_with (gi_at_mapUpdate;refine zDW rfl _ _ _ 82 _ rfl Tryz.underlying82 ((w:C)+1) _ pre.length (by unfold aw;omega) v.q v.o i4.1 i4.2 (aj #[P v.q,P v.o,P v.c,af ae v.r]) rfl b7 rfl rfl ?_;intro w6 l5 Z)
  have l6:V ((w:C)+1):=(HI.out.foot _).2 rfl;refine⟨V,λb h=>.inl h,⟨Z.heap HI.out.box (λh=>by omega),?_,HI.out.foot,HI.out.fr.step Z (λb N h=>.inl h)⟩,Z.mono (λb N h=>by unfold Is at h;subst h;exact l6)⟩;rw[ay,be];show QMap w6 _ (wantG (pre.map ax++[v])) _
  rw[zEe (zMM l4.out)];exact l5
 case done=>
  rintro V W hi hK l7;have b7:=hi.map;rw[zHo,zJU HO.out.2.1,zAV]at b7;have d3:∀ b,b<(w:C)+1->¬ (b=(w:C)+1\/(W2:C)<=b):=λb N h=>by rcases h with h|h<;>omega
  have g5:Fr No w W:=d1.step hi.fr (λb N h=>d3 b (by omega) h);have t0:W.cell? ⟨w,0,K⟩=E (ab a ds.length J):=zB (hi.fr.heap d0 (d3 _ (by omega))) 0;have t5:W.cell? ⟨(w:C)+2,0,K⟩=E (.map (E ((w:C)+1))):=zB hi.box 0;obtain⟨W1,g6,x1,g7⟩:=zy W (ag #[ab a ds.length J,ab K 0 0] 102);have b8:=g5.step x1 zi;have o8:=g5.size;have o9:=HA.out.2.1.sz;have p0:=zC hK;have i6:=zPD (W:C) ((w:C)+1) y a J ds M ct M.length W1 (HA.out.1.no b8) hn (HA.out.2.1.no b8) (HP.out.1.fr b8 (λ_ _=>id)) (HP.out.2.1.no b8) HP.out.2.2.1 HP.out.2.2.2.1 g7 (b7.fr x1 id) (by omega) (by have:=HP.out.2.2.2.2.2;omega) (by omega);have g8:=zh (x1.heap hi.box id);have HQ:=zh (b7.fr x1 id);have l8:=zh b8;have p1:=zh g7;have l9:=zh (x1.heap hK id);have p2:=x1.size;have R:Hid ((W1:C)=(W:C)+1):=by unfold Hid;rw[g6];simp
  have p3:(W2:C)≠(W:C):=by omega
  clear d1 d0 d2 dm db hi b7 x1 g7 b8 hK l7 d3 g5
  go_upto_region 6 with(fail)
  rw[<-g6];clear g6 t0 t5;have t5:W1.cell? ⟨(w:C)+2,0,K⟩=E (.map (E ((w:C)+1))):=zB g8.out 0
  go_wp2_with fail
  refine i6.mono ?_;rintro e w3 ⟨rfl,⟨a1,c1,cs,ao,no,co,g9,i7,i8,b1,d4,e5,e6⟩,a2⟩;clear i6 t5;have m0:=zCT M ds (revR ds);rw[zAV]at m0;have m2:cs.length<=250:=by have h:=congrArg List.length b1;rw[au]at h;omega
  have i9:¬ Is (W:C) ((w:C)+1):=λh=>by omega
  have j0:¬ Is (W:C) ((w:C)+2):=λh=>by have:=zC g8.out;have:=R.out;omega
  have j1:=zh (a2.heap g8.out j0);have m3:=zh (HQ.out.fr a2 i9);have t5:w3.cell? ⟨(w:C)+2,0,K⟩=E (.map (E ((w:C)+1))):=zB j1.out 0;have F3:Fr No w w3:=l8.out.step a2 (λb N h=>by omega);have e7:SetOk M cs ct:=SetOk.map (by rw[b1];exact HP.out.2.2.2.2.1);have j2:=zOd (W:C) ((w:C)+1) (W1:C) y a1 c1 cs M ct (remF M ds (revR ds)).2 ao no co M.length w3 i8 m2 (by omega) (HA.out.2.1.no F3) e5 e6 e7 i7 d4 g9 m3.out (by omega) (by have:=HP.out.2.2.2.2.2;have:=F3.size;omega) a2.size (by have:=R.out;omega) (by omega);have m4:=zh F3;have j3:=zh (a2.heap l9.out (λh=>by omega));have e8:=zg2 b1 g9;have p4:=a2.size;have j4:Hid (∀ b,(ba ao no co).ownBlock=E b->(W1:C)<=b):=λb h=>(zAD d4 h).1
  clear a2 i7 i8 d4 e5 e6 b1 g9 F3 e7
  go_wp2_with fail
  refine j2.mono ?_;rintro e w4 ⟨rfl,j5⟩;have m5:Hid (AddI w3 (W1:C) (W:C) y (w:C) O 0 w4):=by
   obtain⟨⟨m6,m7,m8,m9,p5,n2,j6,n3,n4,j7,j8,j9,k0,n9⟩,k1⟩:=j5;subst j6;have e1:setF M cs ct (remF M ds (revR ds)).2 cs.length=setF M (remF M ds (revR ds)).1 ct (remF M ds (revR ds)).2 (remF M ds (revR ds)).1.length:=by
    rw[<-e8.out.1,zLg,au]
   refine⟨⟨m6,m7,m8,m9,n2,_,_,n3,n4,j8,j9,k0,OpsOk.zd (zNW (zNb M ds (revR ds)) _),?_⟩,k1.mono λb N h=>h.imp_right (j4.out b)⟩;rw[j7,e8.out.1,e1];exact a8.out.1
  clear j2 j5 t5
  go_wp2_with fail
  go_loopw [34] (λx wr=>∃ j:C,j<=M.length/\x=af ae (j:B)/\Hid (AddI w3 (W1:C) (W:C) y (w:C) O j wr)) (λx _=>M.length-(intOf x).toNat)
  case atStart=>exact⟨0,by omega,rfl,m5⟩
  case round=>
   obtain⟨j,hj,rfl,a3⟩:=hrel;have b9:Fr No w wr:=m4.out.step a3.out.fr (λb N h=>by have:=R.out;rcases h with h|h<;>omega);by_cases g4:j<M.length
   .have k2:(j:B)<M.length:=by omega
    obtain⟨vb,o0,u,rfl,d5,⟨c0,c1,c2,c3⟩,p6⟩:=(HA.out.2.2.fr b9 (λ_ _ _=>id)).elem g4;obtain⟨W5,k3,Y,b5⟩:=zy wr (ag #[P u.q,P u.o,P u.c,af ae u.r] 97);have k4:Calls aq 33 #[am (E ⟨W,0,K⟩),aj #[P u.q,P u.o,P u.c,af ae u.r]] W5 λe w'=>e=.returned (.tuple #[])/\Hid (AddI w3 (W1:C) (W:C) y (w:C) O (j+1) w'):=by
     obtain⟨a5,k5,e0,d6,d7,a4,z,a6,d8,I,d9,b3,U,D⟩:=a3.out.st;obtain⟨hL,o1,p,k6,k7⟩:=a8.out.2.1 j u _ a4 z d5 D;rw[au]at hL;have hu:=HO.out.2.2 u (List.mem_of_getElem? d5);have p7:=a3.out.fr.size;have k8:=b9.size;have p8:=Y.size;have g2:=HP.out.2.2.2.2.2;rcases k7 with⟨dt,k9⟩|l0
     .have l1:=k9;rw[zFp]at l1;obtain⟨n5,l2,_⟩:=Option.map_eq_some_iff.1 l1;refine(zOg (W:C) y a5 k5 e0 _ u.q u.o u.c u.r p n5 W5 (d8.no Y) hL (Y.heap a6 id) (zDr.1 k6) l2 hu.1 hu.2).mono ?_;rintro e w6 ⟨rfl,Z⟩;have hx:=Y.step Z zi;exact⟨rfl,⟨⟨a5,k5,e0,d6,d7,a4,z,hx.heap a6 id,d8.no hx,zG I hx (λ_ _=>id),d9.fr hx (λ_ _=>id),b3.no hx,U.fr hx (λ_ _ _=>id),a8.out.2.2 j u _ a4 z _ _ _ d5 D (.inl ⟨⟨dt,k9⟩,rfl,rfl,rfl⟩)⟩,a3.out.fr.step hx zn⟩⟩
     .refine(zOh (W:C) (W1:C) y a5 k5 e0 a4 z d6 z.length d7 u.q u.o u.c u.r p W5 (d8.no Y) hL (HA.out.2.1.no (b9.step Y zi)) (b3.no Y) (Y.heap a6 id) (zG I Y (λ_ _=>id)) (by omega) l0.map (by omega) (by omega)).mono ?_;rintro e w6 ⟨rfl,hR,Z⟩;exact⟨rfl,zLK (Y.heap a6 id) (zG I Y (λ_ _=>id)) (U.fr Y (λ_ _ _=>id)) (a3.out.fr.step Y zn) hR Z (by omega) l0 (λL' b6 a7 h=>a8.out.2.2 j u _ a4 z L' b6 a7 d5 D h)⟩
    obtain⟨v0,v1,v2,v3⟩:=cl4 b5;clear d5 Y b5 b9
    go_upto_region 11 with(fail)
    rw[<-k3];clear k3 c0 c1 c2 c3
    go_wp2_with fail
    refine k4.mono ?_;rintro e w6 ⟨rfl,n6⟩;clear k4 v0 v1 v2 v3
    go_wp2_with fail
    go_roundw
    case rel=>exact⟨j+1,by omega,by go_num,n6⟩
    case measure=>simp[intOf];omega
   .obtain rfl:j=M.length:=by omega
    have k2:¬ (M.length:B)<M.length:=by omega
    obtain⟨a5,k5,e0,d6,d7,a4,z,a6,d8,I,d9,b3,U,D⟩:=a3.out.st;have t1:wr.cell? ⟨W,1,K⟩=E (ab d6 z.length d7):=zB a6 1;have e2:=a3.out.fr.heap j3.out (λh=>by have:=R.out;rcases h with h|h<;>omega);have b4:Fr (Is (W2:C)) wr (wr.putObj (W2:C) (.deferred K)):=Fr.putObj _ _ _ rfl;have e9:Fr No w (wr.putObj (W2:C) (.deferred K)):=b9.step b4 (λb N h=>by omega);have g0:=U.fr b4 (λc x hc h=>by unfold Is at h;rw[h,e2]at hc;cases hc);have g1:=zG I b4 (λb N h=>by
     obtain⟨ad,rfl,rfl⟩:=zBU N;obtain⟨cs,hc⟩:=zAG I ad rfl;unfold Is at h;rw[h,e2]at hc;cases hc)
    have k8:(w:C)<=(W1:C):=by have:=R.out;omega
    have H:=zg4 (zHw g1 k8) g0 D e9;have n7:=zh e2;clear a6 d8 I d9 b3 U D b4 e9 g0 g1 e2 b9
    go_wp2_with fail
    refine⟨by simp,.inl ⟨_,_,rfl,run_takeDeferred n7.out,?_⟩⟩;exact⟨_,results_tmp rfl _ _ _,⟨_,a4,z,H.out.2.2.1,d6,d7,rfl,H.out.1,H.out.2.1⟩,H.out.2.2.2⟩
theorem OpsM.set {u:C}(h:OpsM w u):(Instr.lookup 73 (.map (E u)) (.int ae 3) al).run aq w=.ok (.tuple #[.func (.func 54) #[] #[],.bool al]) w:=by
 obtain⟨v,A,o,y⟩:=World.ownsMap.look_ok h lawI mapOp (zeroOp w) (zd:=.held .nilFunc) (zp:=[]) rfl (keyOf_int_mk Tryz.underlying3 (a:=3) (by kernel_rfl));have e:opsD.atKey (.int ae 3) (.held .nilFunc)=.held (.func (.func 54) #[] #[]):=by rfl
 have z:Maps.has opsD (.int ae 3)=true:=by rfl
 rw[e]at y;rw[z]at o;cases y;exact o
def KAft (w w':ah)(kb base:C)(L:G Dev)(ct:B->f)(ev:ai ak)(en ec em:C)(ix:B):Prop:=
 (∃ a' c' ds' ev' en' ec',KSt w' kb base a' c' ds' ev' en' ec' ix/\ds'.map strip=L/\CtO w' ds' ct/\en'<=en+em)/\Fr (λb=>b=kb\/(ba ev en ec).ownBlock=E b) w w'
theorem zL4 (A o:C)(a:ai ak)(z:C)(ds:G Dev)(O:ai ak)(I R:C)(ix:B)(ct:B->f)(k:C)(u D:f)(U v:Dev)(m:B)(w:ah)(hK:KSt w A o a z ds O I R ix)(hC:CtO w ds ct)(V:I<=60000)(hn:ds.length<=256)(hb:o<=(w:C))(hk:ds[k]?=E v)(X:fidx (λy=>y.index==v.index) ds=(k:B))
  (J:ds.find? (atP ds u)=E v) (Y:v.kind=2) (N:Sound v (cAtt D)) (Z:ds.any (clP v)=false) (hv:D.size<=100000) (hm:w.cell? ⟨0,0,K⟩=E (af ae m)) (h0:0<(w:C)) (a2:0<A):
  Calls aq 6 #[am (E ⟨A,0,K⟩),aj (ocs 3 u U zM D)] w λe w'=>e=.returned (.tuple #[af ae 0,af ae 0])/\KAft w w' A o (ds.map strip) (updC ct v.index D) O I R 1 ix:=
 zMv 3 54 _ A o a z ds O I R ix u zM D U v w hK hn J ⟨rfl,rfl,rfl⟩ (λW mb h=>h.set) (enters_of Tryz.func54 (by kernel_rfl) rfl) λW d F hd=>by
  obtain⟨e,l,h1,h2,h3⟩:=hd;obtain⟨h4,h5⟩:=hC v (List.mem_of_find?_eq_some J);have el:l=cAtt (ct v.index):=h1.det h4 (h2.symm.trans h5);subst el;refine(zPK A o a z ds O I R ix 3 ct k u D U v d m W (hK.no F) (hC.no F) V hn (bn hb F.size) hk X e h3 Y N Z hv (F.cell hm id) (Nat.lt_of_lt_of_le h0 F.size) a2).mono λe w' h=>⟨h.1,h.2.1,(F.mono zn).step h.2.2 zi⟩
end Go.Proofs.YtckkocmhlhefpaaGreatDoor
