/- From the functions' promises to the rows: JournalRows, JournalBases. -/
import Derived.Test.YtddeffdgldjdjaaDoorCk
import Derived.Test.YtddeffdgldjdjaaDoorNo
