/- What spec.SyncOK and impl.SyncOK answer: both contracts. -/
import Derived.Test.YtlfhdjodcfifpaaSFnExactSyncOKb
import Derived.Test.YtlfhdjodcfifpaaSFnExactSyncOKc
